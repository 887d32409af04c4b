/- The abstract layer, part 40: functions that defer calls. -/
import Derived.Test.YtkokccjfpebomaaGreatDoorA8
import Derived.Defers
import Derived.Scope
import Derived.Handed
set_option linter.all false
namespace Go.AL
open Go
variable {K:SV→St→Prop}{st:St}
variable {P:Program}
def RepDs(P:Program)(st:St)(σ:Sig)(w:World):List (FuncId×List SV)→List Deferred→Prop
 | [],[]=>True
 | q::r,d::ds=>(∃ fv cap vs,d.target = .fn fv cap∧(∀ w':World,(invoke (.fn fv cap) d.args).run P w' = .ok (.enter q.1 vs) w')∧RepArgs st σ w q.2 vs)∧RepDs P st σ w r ds
 | _,_=>False
theorem RepArgs.ext'{st st':St}{σ σ':Sig}{w w':World}{xs:List SV}{vs:Array Value}(h:RepArgs st σ w xs vs)(hX:Ext st σ w st' σ' w'):RepArgs st' σ' w' xs vs :=
 ⟨h.1,fun i hi=>(h.2 i hi).ext hX⟩
theorem RepDs.ext{st st':St}{σ σ':Sig}{w w':World}(hX:Ext st σ w st' σ' w'):∀ {l:List (FuncId×List SV)} {ds:List Deferred},RepDs P st σ w l ds→RepDs P st' σ' w' l ds
 | [],[],_=>trivial
 | q::r,d::ds,⟨⟨fv,cap,vs,h1,h2,h3⟩,h4⟩=>⟨⟨fv,cap,vs,h1,h2,h3.ext' hX⟩,RepDs.ext hX h4⟩
def AWpD(P:Program)(c:Code)(Q:Exit→List SV→St→List (FuncId×List SV)→Prop)(env:List SV)(st:St)(ds:List (FuncId×List SV)):Prop :=
 ∀ σ w a,Inv st σ w→RepEnv st σ w env a.tmps→RepDs P st σ w ds a.defers →
  c.wp P (fun e a' w'=>∃ env' st' σ' ds',Q e env' st' ds'∧Inv st' σ' w'∧RepEnv st' σ' w' env' a'.tmps∧RepDs P st' σ' w' ds' a'.defers∧Ext st σ w st' σ' w') a w
theorem AWpD.mono{c:Code}{Q Q':Exit→List SV→St→List (FuncId×List SV)→Prop}{env:List SV}{st:St}{ds:List (FuncId×List SV)}(h:AWpD P c Q env st ds)(hq:∀ e env st ds,Q e env st ds→Q' e env st ds):AWpD P c Q' env st ds :=
 fun σ w a hI hR hD=>wp_mono (h σ w a hI hR hD) fun e a' w' ⟨env',st',σ',ds',q,r⟩=>⟨env',st',σ',ds',hq _ _ _ _ q,r⟩
theorem yx{c:Code}{Q:Exit→List SV→St→Prop}{env:List SV}{st:St}{ds:List (FuncId×List SV)}(h:AWp P c Q env st):AWpD P c (fun e env st ds'=>ds'=ds∧Q e env st) env st ds :=
 fun σ w a hI hR hD=>wp_mono (h σ w a hI hR rfl) fun e a' w' ⟨hd,env',st',σ',hq,hI',hR',hX⟩=>⟨env',st',σ',ds,⟨rfl,hq⟩,hI',hR',by rw[hd];exact hD.ext hX,hX⟩
def ya(next:List SV→St→List (FuncId×List SV)→Prop)(Q:Exit→List SV→St→List (FuncId×List SV)→Prop):Exit→List SV→St→List (FuncId×List SV)→Prop
 | .normal=>next
 | e=>Q e
theorem jj{x y:Code}{Q:Exit→List SV→St→List (FuncId×List SV)→Prop}{env:List SV}{st:St}{ds:List (FuncId×List SV)}(h:AWpD P x (ya (AWpD P y Q) Q) env st ds):AWpD P (.seq x y) Q env st ds:=by
 intro σ w a hI hR hD;refine wp_seq (wp_mono (h σ w a hI hR hD) fun e a' w' hp=>?_);cases e with
 | normal =>
  obtain⟨env',st',σ',ds',hk,hI',hR',hD',hX⟩:=hp;exact wp_mono (hk σ' w' a' hI' hR' hD') fun e a w ⟨env2,yI,σ2,ds2,q,i,r,d,x⟩=>⟨env2,yI,σ2,ds2,q,i,r,d,hX.trans x⟩
 | _=>exact hp
theorem vD{o:Oper}{a:Act}{K K':Act→World→Prop}{Q Q':Exit→Act→World→Prop}(h:∀ a w,K a w→K' a w)(hq:∀ e a w,e ≠ .normal→Q e a w→Q' e a w)
  {r:Result Next} (hh:o.upon P a K Q r):o.upon P a K' Q' r:=by
 cases r with
 | ok n w' =>
  cases n <;> simp only[Oper.upon] at hh ⊢ <;>
   first
    | exact h _ _ hh
    | exact Calls.mono hh (fun e w'' he=>by
      cases e with
      | returned v=>exact h _ _ he
      | panicked c=>exact hq _ _ _ (by simp) he
      | outgrown=>obtain⟨a,w,he⟩:=he;exact⟨a,w,hq _ _ _ (by simp) he⟩)
    | exact Rows.mono hh (fun _ _ he=>h _ _ he)
 | halt x w' =>
  cases x <;> simp only[Oper.upon] at hh ⊢ <;> exact hq _ _ _ (by simp) hh
theorem KW{ops:Array Oper}{Q:Exit→Act→World→Prop}{l2:List Nat}:∀ (l1:List Nat) {a:Act} {w:World},wpOps P ops (fun e a w=>e = .normal∧wpOps P ops Q l2 a w) l1 a w→wpOps P ops Q (l1++l2) a w
 | [],a,w,h=>h.2
 | i::r,a,w,h=>by
  rw[xcA];unfold wpOps at h ⊢;cases ho:ops[i]? with
  | none =>
   rw[ho] at h;exact KW r h
  | some o =>
   rw[ho] at h;simp only at h ⊢;split at h
   ·rename_i hw;rw[if_pos hw];rcases h with h | ⟨h1,a1,w1,h2,_⟩
    ·exact .inl (vD (fun a w h=>KW r h) (fun e a w hne q=>absurd q.1 hne) h)
    ·cases h2
   ·rename_i hw;rw[if_neg hw];exact KW r h
theorem uv{id:Nat}{ops:Array Oper}{n:Nat}{o:Oper}{x:Operand}{ty:Array TypeId}(hn:ops.size=n+1)(ho:ops[n]?=some o)(hop:o.op = .defer { callee :=.value x,args:=#[],argTypes:=ty })(hg:o.guard=none)(hdst:o.dst=none)
  {Q:Exit→List SV→St→List (FuncId×List SV)→Prop} {env:List SV} {st:St} {ds:List (FuncId×List SV)}
  (h:vo P ops (List.range n) (fun env' st'=>∃ g cs,ev env' x = .func (.func g) [] cs∧zC P g=true∧Q .normal env' st' ((g,cs)::ds)) env st):AWpD P (.region id ops false) Q env st ds:=by
 intro σ w a hI hR hD;refine wp_region ?_;rw[hn,List.range_succ];refine KW _ (Yw (fun e a' w' hp=>?_) _ _ _ (h σ w a hI hR rfl));obtain⟨he,hd,env',st',σ',⟨g,cs,hx,hb,hq⟩,hI',hR',hX⟩:=hp;refine⟨he,?_⟩;have hr:=qS hR' x;rw[hx] at hr;generalize hv:a'.eval x=v at hr;cases hr with
 | func fn first captured vf vc h1 h2 r1 r2 =>
  have hvf:vf=#[]:=by
   apply Array.eq_empty_of_size_eq_zero
   simpa using h1
  have hrun:(execOp a'.eval o).run P w' = .ok (.defer { target :=.fn (.func g) vc,args:=vf++#[] }) w':=by
   simp[execOp,hop,resolve,hv,Deferred.ofValue]
  simp only[wpOps,ho,Region.wanted,hg,if_true];left;unfold Oper.wp;rw[hrun,Oper.upon_defer,hdst];refine⟨env',st',σ',(g,cs)::ds,hq,hI',hR',⟨⟨.func g,vc,vc,rfl,fun w2=>?_,⟨h2,fun i hi=>?_⟩⟩,?_⟩,hX⟩
  ·subst hvf;simp[invoke,Hl hb]
  ·have:=r2 i hi;have hs:i<vc.size:=by rw[h2];exact hi
   rw[Array.getD_eq_getD_getElem?,Array.getElem?_eq_getElem hs] at this ⊢;exact this
  ·show RepDs P st' σ' w' ds a'.defers;rw[hd];exact hD.ext hX
def Dn(P:Program)(f:FuncId)(args:List SV)(K:SV→St→Prop)(st:St):Prop :=
 ∀ σ w vs,Inv st σ w→RepArgs st σ w args vs→∀ u,CallsD P f vs u w fun e u' w' =>
  u'=u∧∃ v x st' σ',e = .returned v∧K x st'∧Inv st' σ' w'∧Rep st' σ' w' x v∧Ext st σ w st' σ' w'
theorem ul{f:FuncId}{fn:Func}{c:Code}{args:List SV}(hf:P.funcs[f]?=some fn)(hb:fn.body=some c)
  (h:AWp P c (CF P fn K) (args++List.replicate (fn.ntmps-args.length) .any) st):Dn P f args K st:=by
 intro σ w vs hI hR u;refine callsD_of_wp hf hb (wp_mono (h σ w { tmps:=vs++Array.replicate (fn.ntmps-vs.size) undef,defers:=[] } hI ⟨by simp[hR.1],fun i hi=>?_⟩ rfl) fun e a' w' hp=>?_)
 ·rw[Array.getD_eq_getD_getElem?,xgE];by_cases c1:i<args.length
  ·rw[List.getElem?_append_left c1,Array.getElem?_append_left (by rw[hR.1];exact c1)];have:=hR.2 i c1;rwa[Array.getD_eq_getD_getElem?,xgE] at this
  ·rw[List.getElem?_append_right (by omega),List.getElem?_replicate];split <;> exact .any _
 ·obtain⟨hd,env',st',σ',⟨he,l,hl,hk⟩,hI',hR',hX⟩:=hp;obtain⟨v,h1,h2⟩:=Ka (P:=P) hI' hR' hl;cases e <;> simp only at he <;> exact⟨hd,v,h1,v,_,st',σ',rfl,hk,hI',h2,hX⟩
def rT(P:Program)(rs:List ResultVar)(K:SV→St→Prop)(env:List SV):List (FuncId×List SV)→St→Prop
 | [],st=>(YP P env st rs).isSome=true∧K (X7 ((YP P env st rs).getD [])) st
 | q::r,st=>Dn P q.1 q.2 (fun _ st'=>rT P rs K env r st') st
theorem yQ{fn:Func}{K:SV→St→Prop}{env:List SV}{tmps:Array Value}{st0:St}{σ0:Sig}{w0:World}:∀ (ds:List (FuncId×List SV)) (defs:List Deferred) (st:St) (σ:Sig) (w:World),rT P fn.results.toList K env ds st→Inv st σ w→RepEnv st σ w env tmps→RepDs P st σ w ds defs→Ext st0 σ0 w0 st σ w →
  Leaves P fn tmps (fun e w'=>∃ v x st' σ',e = .returned v∧K x st'∧Inv st' σ' w'∧Rep st' σ' w' x v∧Ext st0 σ0 w0 st' σ' w') defs .returning w
 | [],[],st,σ,w,⟨hs,hk⟩,hI,hR,_,hX=>by
  obtain⟨v,h1,h2⟩:=Ka (P:=P) hI hR (qZ (d:=[]) hs);exact⟨v,h1,v,_,st,σ,rfl,hk,hI,h2,hX⟩
 | q::r,d::defs,st,σ,w,hq,hI,hR,⟨⟨fv,cap,vs,h1,h2,h3⟩,h4⟩,hX=>by
  obtain⟨t,da⟩:=d;simp only at h1;subst h1;refine leaves_cons (by simp) (h2 w) ((hq σ w vs hI h3 .returning).mono fun e u' w' ⟨hu,v,x,st',σ',he,hk,hI',hr,hX'⟩=>?_);subst hu;subst he;exact yQ r defs st' σ' w' hk hI' (hR.ext hX') (h4.ext hX') (hX.trans hX')
theorem k9{f:FuncId}{fn:Func}{c:Code}{args:List SV}(hf:P.funcs[f]?=some fn)(hb:fn.body=some c)
  (h:AWpD P c (fun e env st ds=>(match e with | .normal=>True | .ret=>True | _=>False)∧rT P fn.results.toList K env ds st) (args++List.replicate (fn.ntmps-args.length) .any) st []):ACalls P f args K st:=by
 intro σ w vs hI hR;refine calls_of_wp_defers hf hb (wp_mono (h σ w { tmps:=vs++Array.replicate (fn.ntmps-vs.size) undef,defers:=[] } hI ⟨by simp[hR.1],fun i hi=>?_⟩ trivial) fun e a' w' hp=>?_)
 ·rw[Array.getD_eq_getD_getElem?,xgE];by_cases c1:i<args.length
  ·rw[List.getElem?_append_left c1,Array.getElem?_append_left (by rw[hR.1];exact c1)];have:=hR.2 i c1;rwa[Array.getD_eq_getD_getElem?,xgE] at this
  ·rw[List.getElem?_append_right (by omega),List.getElem?_replicate];split <;> exact .any _
 ·obtain⟨env',st',σ',ds',⟨he,hq⟩,hI',hR',hD',hX⟩:=hp;cases e <;> simp only at he <;> exact yQ ds' _ st' σ' w' hq hI' hR' hD' hX
theorem kJ{f:FuncId}{fn:Func}{c:Code}{rs:Array ResultVar}{n:Nat}{args:List SV}(hf:P.funcs[f]?=some fn)(hb:fn.body=some c)(hr:fn.results=rs)(hn:fn.ntmps=n)
  (h:AWpD P c (fun e env st ds=>(match e with | .normal=>True | .ret=>True | _=>False)∧rT P rs.toList K env ds st) (args++List.replicate (n-args.length) .any) st []):ACalls P f args K st:=by
 subst hr;subst hn;exact k9 hf hb h
theorem nI{rs:List ResultVar}{K:SV→St→Prop}{env:List SV}{st:St}:rT P rs K env [] st=((YP P env st rs).isSome=true∧K (X7 ((YP P env st rs).getD [])) st):=rfl
theorem AD{rs:List ResultVar}{K:SV→St→Prop}{env:List SV}{st:St}{q:FuncId×List SV}{r:List (FuncId×List SV)}:rT P rs K env (q::r) st=Dn P q.1 q.2 (fun _ st'=>rT P rs K env r st') st:=rfl
end Go.AL
namespace Go.AL
variable {P:Program}
abbrev gT:=List Nat×Oper×List SV×SV
def JS(P:Program)(M:List Nat)(ds:List (Option Tmp))(s:St)(j:Nat):List gT→Prop
 | []=>True
 | p::r=>(if p.1.contains j then Zg P M ds p.2.1 p.2.2.1 s (fun y=>y=p.2.2.2) else True)∧JS P M ds s j r
def X6(P:Program)(M:List Nat)(ds:List (Option Tmp)):List (Nat×List Nat)→List Oper→List SV→St→List gT→(List SV→St→Prop)→Prop
 | [],[],env,st,_,K=>K env st
 | (0,[])::tg,o::r,env,st,pd,K=>Zg P M ds o env st fun x=>X6 P M ds tg r (Zx env o.dst x) st pd K
 | (0,a::l)::tg,o::r,env,st,pd,K=>Zg P M ds o env st fun x=>X6 P M ds tg r (Zx env o.dst x) st ((a::l,o,env,x)::pd) K
 | (1,l)::tg,o::r,env,st,pd,K=>K0 o.op=true∧o.guard=none∧qr P M o (ZN (qV o.op.operands.toList) 0 env) st fun x s=>JS P M ds s (l.headD 0) pd∧X6 P M ds tg r (Zx env o.dst x) s pd K
 | (3,l)::tg,o::r,env,st,pd,K=>∃ X s',qr P M o (ZN (qV o.op.operands.toList) 0 env) st (fun x s=>x=X∧s=s')∧o.guard=none∧JS P M ds s' (l.headD 0) pd∧X6 P M ds tg r (Zx env o.dst X) s' pd K
 | _,_,_,_,_,_=>False
section
variable {M:List Nat} {ds:List (Option Tmp)} {st s:St} {tg:List (Nat×List Nat)} {o:Oper} {r:List Oper} {env e:List SV} {K:List SV→St→Prop} {pd:List gT} {a j:Nat} {l:List Nat} {x:SV}
theorem tY:X6 P M ds [] [] env st pd K=K env st:=rfl
theorem uO:X6 P M ds ((0,[])::tg) (o::r) env st pd K=Zg P M ds o env st fun x=>X6 P M ds tg r (Zx env o.dst x) st pd K:=rfl
theorem xk:X6 P M ds ((0,a::l)::tg) (o::r) env st pd K=Zg P M ds o env st fun x=>X6 P M ds tg r (Zx env o.dst x) st ((a::l,o,env,x)::pd) K:=rfl
theorem yc:X6 P M ds ((1,l)::tg) (o::r) env st pd K=(K0 o.op=true∧o.guard=none∧qr P M o (ZN (qV o.op.operands.toList) 0 env) st fun x s=>JS P M ds s (l.headD 0) pd∧X6 P M ds tg r (Zx env o.dst x) s pd K):=rfl
theorem uL:X6 P M ds ((3,l)::tg) (o::r) env st pd K=∃ X s',qr P M o (ZN (qV o.op.operands.toList) 0 env) st (fun x s=>x=X∧s=s')∧o.guard=none∧JS P M ds s' (l.headD 0) pd∧X6 P M ds tg r (Zx env o.dst X) s' pd K:=rfl
theorem lL:JS P M ds s j []=True:=rfl
theorem rj:JS P M ds s j ((l,o,e,x)::pd)=((if l.contains j then Zg P M ds o e s (fun y=>y=x) else True)∧JS P M ds s j pd):=rfl
theorem tz:(a::l).headD j=a:=rfl
end
def WY(ks:List Nat)(n k:Nat):Nat:=(ks.find? (fun m=>decide (k<m))).getD n
def KP(ks:List Nat)(sz:Nat):Nat→List (Nat×List Nat)→Bool
 | _,[]=>true
 | n,(t,l)::r=>(ks.contains n==(t==1 || t==3))&&(if t==1 || t==3 then l==[WY ks sz n] else true)&&KP ks sz (n+1) r
def yO:Nat→List (Nat×List Nat)→List Nat
 | _,[]=>[]
 | n,(t,_)::r=>if t==1 || t==3 then n::yO (n+1) r else yO (n+1) r
theorem nA{M:List Nat}{ops:Array Oper}{ks:List Nat}{K:List SV→St→Prop}:∀ (n:Nat) (tg:List (Nat×List Nat)) (l:List Oper) (env:List SV) (st:St) (pd:List gT),ops.toList.drop n=l→KP ks ops.size n tg=true →
  X6 P M (ops.toList.map (·.dst)) tg l env st pd K →
  ∃ (F:Nat→List SV) (G:Nat→St) (X:Nat→SV),F n=env∧G n=st ∧
   (∀ i o,n≤i→ops[i]?=some o→F (i+1)=Zx (F i) o.dst (X i) ∧
    (if ks.contains i then KT P ops (G i) (G (i+1)) o (F i) (X i) else G (i+1)=G i∧Y3 P ops (G i) o (F i) (X i) ∧
     ∀ k∈ks,i<k→k<ops.size→(tg.getD (i-n) (0,[])).2.contains (WY ks ops.size k)=true→Y3 P ops (G (k+1)) o (F i) (X i))) ∧
   (∀ p∈pd,∀ k∈ks,n≤k→k<ops.size→p.1.contains (WY ks ops.size k)=true→Y3 P ops (G (k+1)) p.2.1 p.2.2.1 p.2.2.2) ∧
   K (F (n+l.length)) (G (n+l.length))
 | n,[],[],env,st,pd,hl,ht,h=>by
  have hn:ops.size≤n:=by
   have h2:=congrArg List.length hl;simp at h2;omega
  refine⟨fun _=>env,fun _=>st,fun _ =>.any,rfl,rfl,fun i o hi ho=>?_,fun p hp k hk h1 h2=>by omega,h⟩;have h1:=qh ho;omega
 | n,(t,lt)::tg,o::r,env,st,pd,hl,htg,h=>by
  have ho:ops[n]?=some o:=by
   have:(ops.toList.drop n)[0]?=some o:=by rw[hl];rfl
   rw[List.getElem?_drop,Nat.add_zero,Array.getElem?_toList] at this;exact this
  have hr:ops.toList.drop (n+1)=r:=by rw[←List.drop_drop,hl];rfl
  simp only[KP,Y4,beq_iff_eq] at htg;obtain⟨⟨t1,t2⟩,t3⟩:=htg;have fin:∀ (X0:SV) (s':St) (pd':List gT),X6 P M (ops.toList.map (·.dst)) tg r (Zx env o.dst X0) s' pd' K→(∀ p∈pd,p∈pd') →
    (if ks.contains n then KT P ops st s' o env X0 else s'=st∧Y3 P ops st o env X0∧(lt=[]∨(lt,o,env,X0)∈pd')) →
    (ks.contains n=true→∀ p∈pd,p.1.contains (WY ks ops.size n)=true→Y3 P ops s' p.2.1 p.2.2.1 p.2.2.2) →
    ∃ (F:Nat→List SV) (G:Nat→St) (X:Nat→SV),F n=env∧G n=st ∧
     (∀ i o,n≤i→ops[i]?=some o→F (i+1)=Zx (F i) o.dst (X i) ∧
      (if ks.contains i then KT P ops (G i) (G (i+1)) o (F i) (X i) else G (i+1)=G i∧Y3 P ops (G i) o (F i) (X i) ∧
       ∀ k∈ks,i<k→k<ops.size→(((t,lt)::tg).getD (i-n) (0,[])).2.contains (WY ks ops.size k)=true→Y3 P ops (G (k+1)) o (F i) (X i))) ∧
     (∀ p∈pd,∀ k∈ks,n≤k→k<ops.size→p.1.contains (WY ks ops.size k)=true→Y3 P ops (G (k+1)) p.2.1 p.2.2.1 p.2.2.2) ∧
     K (F (n+(o::r).length)) (G (n+(o::r).length)):=by
   intro X0 s' pd' hrest hsub hfact hpend;obtain⟨F,G,X,f1,f2,f4,f6,f5⟩:=nA (n+1) tg r _ _ _ hr t3 hrest;have hkb:∀ k,n+1≤k→(if k+1=n then st else G (k+1))=G (k+1):=fun k hk=>if_neg (by omega);refine⟨fun i=>if i=n then env else F i,fun i=>if i=n then st else G i,fun i=>if i=n then X0 else X i,by simp,by simp,fun i p hi hp=>?_,fun p hp k hk h1 h2 h3=>?_,?_⟩
   ·by_cases e:i=n
    ·subst e;rw[ho] at hp;cases hp;simp only[if_true,show ¬ i+1=i by omega,if_false];refine⟨f1,?_⟩;rw[f2];by_cases hc:ks.contains i=true
     ·rw[if_pos hc] at hfact ⊢;exact hfact
     ·rw[if_neg hc] at hfact ⊢;refine⟨hfact.1,hfact.2.1,fun k hk hik hks hcon=>?_⟩;rw[hkb k hik];rw[Nat.sub_self] at hcon;have hcon:lt.contains (WY ks ops.size k)=true:=hcon;rcases hfact.2.2 with h0 | h0
      ·rw[h0] at hcon;cases hcon
      ·exact f6 _ h0 k hk (by omega) hks hcon
    ·simp only[if_neg e,show ¬ i+1=n by omega,if_false];have h4:=f4 i p (by omega) hp;refine⟨h4.1,?_⟩;by_cases hc:ks.contains i=true
     ·rw[if_pos hc];have:=h4.2;rwa[if_pos hc] at this
     ·rw[if_neg hc];have h5:=h4.2;rw[if_neg hc] at h5;refine⟨h5.1,h5.2.1,fun k hk hik hks hcon=>?_⟩;rw[hkb k (by omega)];refine h5.2.2 k hk hik hks ?_;rw[show i-n=(i-(n+1))+1 by omega] at hcon;exact hcon
   ·show Y3 P ops (if k+1=n then st else G (k+1)) _ _ _;rw[if_neg (by omega)];by_cases e:k=n
    ·subst e;rw[f2];exact hpend (by simpa using hk) p hp h3
    ·exact f6 p (hsub p hp) k hk (by omega) h2 h3
   ·simp only[xlC];rw[if_neg (by omega),if_neg (by omega),show n+(r.length+1)=n+1+r.length by omega];exact f5
  have turn:∀ (X0:SV) (s':St),ks.contains n=true→qr P M o (ZN (qV o.op.operands.toList) 0 env) st (fun x s=>x=X0∧s=s')→o.guard=none →
    (if ks.contains n then KT P ops st s' o env X0 else s'=st∧Y3 P ops st o env X0∧(lt=[]∨(lt,o,env,X0)∈pd)):=by
   intro X0 s' hk h1 h2;rw[if_pos hk];intro σ w a env' hI hR hs hlen;refine⟨h2,fun _ _ _=>False,fun _ _ _ h=>h,?_⟩;refine QH ?_ (fun _ _ _ h=>h) (KH h1 σ w a hI (UL hR hs hlen));rintro a' w' ⟨v,x,s1,σ',rfl,⟨rfl,rfl⟩,hI',hr',hX⟩;exact⟨v,σ',rfl,hI',hX,hr'⟩
  have pends:∀ (s':St) (q:List gT),JS P M (ops.toList.map (·.dst)) s' (WY ks ops.size n) q→∀ p∈q,p.1.contains (WY ks ops.size n)=true→Y3 P ops s' p.2.1 p.2.2.1 p.2.2.2:=by
   intro s' q;induction q with
   | nil=>intro _ p hp;cases hp
   | cons a q ih =>
    intro hq p hp hc;rcases List.mem_cons.1 hp with rfl | hp
    ·have h1:=hq.1;rw[if_pos hc] at h1;obtain⟨X1,g1,rfl⟩:=Di h1;exact g1
    ·exact ih hq.2 p hp hc
  match t,lt,t1,t2,h with
  | 0,[],t1,t2,h =>
   rw[uO] at h;obtain⟨X0,h1,h2⟩:=Di h;have k1:ks.contains n=false:=t1;refine fin X0 st pd h2 (fun p hp=>hp) ?_ (fun hc=>by rw[k1] at hc;cases hc);rw[k1];exact⟨rfl,h1,.inl rfl⟩
  | 0,a::l,t1,t2,h =>
   rw[xk] at h;obtain⟨X0,h1,h2⟩:=Di h;have k1:ks.contains n=false:=t1;refine fin X0 st _ h2 (fun p hp=>List.mem_cons_of_mem _ hp) ?_ (fun hc=>by rw[k1] at hc;cases hc);rw[k1];exact⟨rfl,h1,.inr (List.mem_cons_self ..)⟩
  | 1,l,t1,t2,h =>
   rw[yc] at h;obtain⟨hs,hg,he⟩:=h;obtain⟨X0,s',h1,h2,h3⟩:=gG hs he;have hl2:l=[WY ks ops.size n]:=by simpa using t2
   rw[hl2] at h2;exact fin X0 s' pd h3 (fun p hp=>hp) (turn X0 s' t1 h1 hg) (fun _=>pends s' pd h2)
  | 3,l,t1,t2,h =>
   rw[uL] at h;obtain⟨X0,s',h1,h2,h3,h4⟩:=h;have hl2:l=[WY ks ops.size n]:=by simpa using t2
   rw[hl2] at h3;exact fin X0 s' pd h4 (fun p hp=>hp) (turn X0 s' t1 h1 h2) (fun _=>pends s' pd h3)
  | 2,_,_,_,h=>exact h.elim
  | n+4,_,_,_,h=>exact h.elim
 | n,[],o::r,env,st,pd,hl,ht,h=>h.elim
 | n,(0,[])::tg,[],env,st,pd,hl,ht,h=>h.elim
 | n,(0,_::_)::tg,[],env,st,pd,hl,ht,h=>h.elim
 | n,(1,_)::tg,[],env,st,pd,hl,ht,h=>h.elim
 | n,(2,_)::tg,[],env,st,pd,hl,ht,h=>h.elim
 | n,(3,_)::tg,[],env,st,pd,hl,ht,h=>h.elim
 | n,(k+4,_)::tg,[],env,st,pd,hl,ht,h=>h.elim
def Gp(ops:Array Oper)(tags:List (Nat×List Nat)):Bool :=
 Wl ops&&J' ops (yO 0 tags)&&(yO 0 tags).all (· < ops.size)&&KP (yO 0 tags) ops.size 0 tags &&
 (List.range ops.size).all fun i=>(yO 0 tags).contains i || (ops.size::yO 0 tags).all fun j => !oU ops (yO 0 tags) i j ||
  (decide (i≤j)&&((yO 0 tags).all (fun m => !(decide (i≤m)&&decide (m<j))) ||
   (tags.getD i (0,[])).2.contains j&&(yO 0 tags).any fun k=>decide (i<k)&&(WY (yO 0 tags) ops.size k==j)&&decide (k<j)&&(yO 0 tags).all fun m => !(decide (k<m)&&decide (m<j))))
theorem zA(M:List Nat)(tags:List (Nat×List Nat)){id:Nat}{ops:Array Oper}{Q:Exit→List SV→St→Prop}{env:List SV}{st:St}(hm:P.follows .mixedOrders=true)(ht:Gp ops tags=true)
  (h:X6 P M (ops.toList.map (·.dst)) tags ops.toList env st [] fun e s=>Q .normal e s):AWp P (.region id ops true) Q env st:=by
 unfold Gp at ht;simp only[Y4] at ht;obtain⟨⟨⟨⟨h1,h2⟩,h3⟩,h4⟩,h5⟩:=ht;obtain⟨F,G,X,f1,f2,f3,_,f5⟩:=nA 0 tags ops.toList env st [] rfl h4 h;generalize yO 0 tags=ks at *;have gconst:∀ d a,a+d≤ops.size→(∀ k∈ks,¬ (a≤k∧k<a+d))→G (a+d)=G a:=by
  intro d;induction d with
  | zero=>intro a _ _;rfl
  | succ d ih =>
   intro a ha hno;have h1:=ih a (by omega) (fun k hk hc=>hno k hk (by omega));have hp:ops[a+d]?=some ops[a+d]:=by simp[show a+d<ops.size by omega]
   have h2:=(f3 (a+d) _ (Nat.zero_le _) hp).2;rw[if_neg (by
    intro hc;exact hno (a+d) (by simpa using hc) (by omega))] at h2
   rw[show a+(d+1)=a+d+1 by omega,h2.1,h1]
 have gsame:∀ a b,a≤b→b≤ops.size→(∀ k∈ks,¬ (a≤k∧k<b))→G b=G a:=by
  intro a b hab hb hno;obtain⟨d,rfl⟩:=Nat.exists_eq_add_of_le hab;exact gconst d a hb hno
 refine vj ks hm h1 h2 h3 ⟨F,G,X,f1,f2,fun i o hi ho=>⟨(f3 i o hi ho).1,?_⟩,f5⟩;have hfact:=(f3 i o hi ho).2;by_cases hc:ks.contains i=true
 ·rw[if_pos hc] at hfact ⊢;exact hfact
 ·rw[if_neg hc] at hfact ⊢;refine⟨hfact.1,fun j hj ha=>?_⟩;have hil:=qh ho;rw[List.all_eq_true] at h5;have h6:=h5 i (by simpa using hil);rw[Bool.or_eq_true] at h6;have h7:=h6.resolve_left hc;rw[List.all_eq_true] at h7;have h8:=h7 j (by rcases hj with h | h <;> simp[h]);rw[ha] at h8;simp only[Bool.not_true,Bool.false_or,Y4,Bool.or_eq_true,decide_eq_true_eq] at h8;have hjs:j≤ops.size:=by
   rcases hj with h | h
   ·omega
   ·rw[List.all_eq_true] at h3;have:=h3 j h;simp at this;omega
  obtain⟨hij,h9 | ⟨h9,h10⟩⟩:=h8
  ·rw[List.all_eq_true] at h9;rw[gsame i j hij hjs fun k hk hcc=>by
    have:=h9 k hk;simp only[Bool.not_eq_true',Bool.and_eq_false_iff,decide_eq_false_iff_not] at this;omega]
   exact hfact.2.1
  ·rw[List.any_eq_true] at h10;obtain⟨k,hk,h11⟩:=h10;simp only[Y4,decide_eq_true_eq,beq_iff_eq,List.all_eq_true] at h11;obtain⟨⟨⟨k1,k2⟩,k3⟩,k4⟩:=h11;rw[gsame (k+1) j k3 hjs fun m hm hcc=>by
    have:=k4 m hm;simp only[Bool.not_eq_true',Bool.and_eq_false_iff,decide_eq_false_iff_not] at this;omega]
   refine hfact.2.2 k hk k1 (by omega) ?_;rw[k2];exact h9
def ve(P:Program)(l:List SV):Option (Nat×TypeId)→Prop
 | some q=>JE P q.2=some false∧q.1<l.length
 | none=>False
def mG(l:List SV):Option (Nat×TypeId)→SV
 | some q=>l.getD q.1 .any
 | none =>.any
section
variable {t:TypeId} {f:Nat} {l:List SV} {q:Nat×TypeId}
@[go_sem] theorem aV:wF P t f (.agg l)=ve P l (Yr P t f):=by unfold wF ve;cases Yr P t f <;> rfl
@[go_sem] theorem sW:nT P t f (.agg l)=mG l (Yr P t f):=by unfold nT mG;cases Yr P t f <;> rfl
@[go_sem] theorem Cm:ve P l (some q)=(JE P q.2=some false∧q.1<l.length):=rfl
@[go_sem] theorem MR:mG l (some q)=l.getD q.1 .any:=rfl
end
theorem vJ(M:List Nat){f:FuncId}{fn:Func}{c:Code}{rs:Array ResultVar}{n:Nat}{args:List SV}{K:SV→St→Prop}{st:St}(hf:P.funcs[f]?=some fn)(hb:fn.body=some c)
  (hr:fn.results=rs) (hn:fn.ntmps=n) (h:Qo P M c (Lr P rs.toList K) (args++List.replicate (n-args.length) .any) st):Dn P f args K st:=by
 subst hr;subst hn;refine ul hf hb ((D7 h).mono fun e env st hq=>?_);cases e <;> simp only[Lr] at hq <;> first | exact hq.elim | exact⟨trivial,_,qZ (d:=[]) hq.1,hq.2⟩
theorem Q5(M:List Nat){x y:Code}{Q:Exit→List SV→St→List (FuncId×List SV)→Prop}{env:List SV}{st:St}{ds:List (FuncId×List SV)}
  (h:Qo P M x (fun e env st=>ya (AWpD P y Q) Q e env st ds) env st):AWpD P (.seq x y) Q env st ds :=
 jj (AWpD.mono (yx (D7 h)) fun e env st ds' ⟨h1,h2⟩=>by rw[h1];exact h2)
theorem lI(M:List Nat){x:Code}{Q:Exit→List SV→St→List (FuncId×List SV)→Prop}{env:List SV}{st:St}{ds:List (FuncId×List SV)}
  (h:Qo P M x (fun e env st=>Q e env st ds) env st):AWpD P x Q env st ds :=
 AWpD.mono (yx (D7 h)) fun e env st ds' ⟨h1,h2⟩=>by rw[h1];exact h2
theorem XV{next:List SV→St→List (FuncId×List SV)→Prop}{Q:Exit→List SV→St→List (FuncId×List SV)→Prop}:ya next Q .normal=next:=rfl
theorem Jt{next:List SV→St→List (FuncId×List SV)→Prop}{Q:Exit→List SV→St→List (FuncId×List SV)→Prop}:ya next Q .ret=Q .ret:=rfl
theorem FP{f:FuncId}{args:List SV}{K:SV→St→Prop}{st:St}
  (h:ACalls P f args (fun x s=>∃ s1 ex,s=s1++ex∧st.length≤s1.length∧(∀ (id:Nat) (o:Ob),s1[id]?=some o→ObIds s1.length o)∧Ids s1.length x∧K x s1) st) :
  ACalls P f args K st:=by
 intro σ w vs hI hR;refine (h σ w vs hI hR).mono ?_;rintro e w' ⟨v,x,st',σ',rfl,⟨s1,ex,rfl,hl,hc,hids,hk⟩,hI',hr,hX⟩;exact⟨v,x,s1,σ',rfl,hk,hI'.drop hc,hr.drop hids,hX.drop hl⟩
def yT(st:St)(K:SV→St→Prop):SV→St→Prop:=fun x s=>∃ s1 ex,s=s1++ex∧Mod st s1∧Ids s1.length x∧K x s1
theorem jd{f:FuncId}{args:List SV}{K:SV→St→Prop}{st:St}(h:ACalls P f args (yT st K) st):ACalls P f args K st:=by
 intro σ w vs hI hR;refine FP (h.mono ?_) σ w vs hI hR;rintro x s ⟨s1,ex,rfl,hm,hids,hk⟩;exact⟨s1,ex,rfl,hm.len,fun id o ho=>(hm.all id o ho).elim (fun h1=>(hI.obIds id o h1).mono hm.len) fun h=>h,hids,hk⟩
theorem Z4(M:List Nat){f:FuncId}{fn:Func}{c:Code}{rs:Array ResultVar}{n:Nat}{args:List SV}{K:SV→St→Prop}{st:St}(hf:P.funcs[f]?=some fn)(hb:fn.body=some c)
  (hr:fn.results=rs) (hn:fn.ntmps=n) (h:Qo P M c (Lr P rs.toList (yT st K)) (args++List.replicate (n-args.length) .any) st) :
  ACalls P f args K st:=jd (Qr hf hb hr hn h)
theorem L7{id d:Nat}{g:FuncId}{caps:Array Operand}{t1 t2:TypeId}{p1 p2:String}{a1 a2:Array Edge}{ty:Array TypeId}
  {Q:Exit→List SV→St→List (FuncId×List SV)→Prop} {env:List SV} {st:St} {ds:List (FuncId×List SV)} (hb:zC P g=true) (hd:d<env.length)
  (h:Q .normal (env.set d (.func (.func g) [] (caps.toList.map (ev env)))) st ((g,caps.toList.map (ev env))::ds)) :
  AWpD P (.region id #[⟨some d,.makeFunc (.func g) #[] caps,t1,p1,a1,none⟩,⟨none,.defer { callee :=.value (.tmp d),args:=#[],argTypes:=ty },t2,p2,a2,none⟩] false) Q env st ds:=by
 refine uv (n:=1) rfl rfl rfl rfl rfl ?_;refine Bo rfl rfl (Kk (EP rfl) ?_);refine jD ⟨g,_,?_,hb,h⟩;show (env.set d _).getD d .any=_;simp[xgE,hd]
end Go.AL
namespace Go.AL
variable {P:Program}
theorem Hx{st:St}{σ:Sig}{w:World}{z ver id:Nat}{l:List SV}{v:Value}(ht:st[id]?=some (.tok ver))(h:Rep st σ w (.slice .full z l) v):Rep st σ w (.slice (.own id ver) z l) v:=by
 generalize hx:SV.slice .full z l=x at h;cases h with
 | nil m z hm=>cases hx;exact .nil _ _ ⟨ver,ht,Nat.le_refl _⟩
 | slice m z l a cap vals hcap hsp hzz hc hr hm =>
  cases hx;exact .slice _ _ _ _ _ vals hcap hsp hzz hc hr ⟨ver,ht,Nat.le_refl _,fun _ =>.inl hm⟩
 | _=>cases hx
theorem nX{c:Code}{Q:Exit→List SV→St→Prop}{env:List SV}{st:St}(id j z:Nat)(x:List SV){l:List SV}(hl:st[id]?=some (.cells l))(hj:j<l.length)(he:l.getD j .any = .slice .full z x)
  (h:AWp P c Q env (st.set id (.cells (l.set j (.slice (.own st.length 0) z x)))++[.tok 0])):AWp P c Q env st:=by
 intro σ w t hI hR D hd;have hX:Ext st σ w (st++[.tok 0]) (σ.setMu st.length none) w:=Ext.newTok none;have hI1:=hI.newTok none (fun c hc=>by cases hc);have hlt:=zi hl;have hl1:(st++[.tok 0])[id]?=some (.cells l):=by rw[List.getElem?_append_left hlt];exact hl
 obtain⟨b,cs,T,h1,h2,h3,h4,h5⟩:=hI1.cells id l hl1;have hr:∀ i,i<(l.set j (.slice (.own st.length 0) z x)).length→Rep (st++[.tok 0]) (σ.setMu st.length none) w ((l.set j (.slice (.own st.length 0) z x)).getD i .any) (cs.getD i default):=by
  intro i hi;simp only[List.length_set] at hi;by_cases e:j=i
  ·subst e;have h6:=h4 j hi;rw[he] at h6;have e2:(l.set j (.slice (.own st.length 0) z x)).getD j .any = .slice (.own st.length 0) z x:=by simp[xgE,hi]
   rw[e2];exact Hx (by simp) h6
  ·have:=h4 i hi;simpa[xgE,List.getElem?_set_ne e] using this
 have hX2:=Ext.write (w':=w) (l':=l.set j (.slice (.own st.length 0) z x)) hI1 hl1 h1 h5 rfl rfl rfl rfl (fun _ _=>rfl);have hI2:=Inv.write (w':=w) (l':=l.set j (.slice (.own st.length 0) z x)) hI1 hl1 h1 h5 rfl rfl rfl rfl (fun _ _=>rfl) h2 (by simpa using h3) hr;have e:(st++[Ob.tok 0]).set id (.cells (l.set j (.slice (.own st.length 0) z x)))=st.set id (.cells (l.set j (.slice (.own st.length 0) z x)))++[.tok 0]:=by
  rw[List.set_append_left _ _ hlt]
 rw[e] at hX2 hI2;have hX3:=hX.trans hX2;exact wp_mono (h _ _ t hI2 (hR.ext hX3) hd) fun e a w hp=>hp.ext hX3
theorem oC{c:Code}{Q:Exit→List SV→St→Prop}{env:List SV}{st:St}(id:Nat){l l':List SV}(hl:st[id]?=some (.cells l))(hlen:l'.length=l.length)(hle:∀ i,SVle (l.getD i .any) (l'.getD i .any))
  (h:AWp P c Q env (st.set id (.cells l'))):AWp P c Q env st:=by
 intro σ w t hI hR D hd;obtain⟨b,cs,T,h1,h2,h3,h4,h5⟩:=hI.cells id l hl;have hX2:=Ext.write (w':=w) (l':=l') hI hl h1 h5 rfl rfl rfl rfl (fun _ _=>rfl);have hI2:=Inv.write (w':=w) (l':=l') hI hl h1 h5 rfl rfl rfl rfl (fun _ _=>rfl) h2 (by rw[hlen];exact h3) (fun j hj=>hle j _ _ _ _ (h4 j (by rw[←hlen];exact hj)));exact wp_mono (h _ _ t hI2 (hR.ext hX2) hd) fun e a w hp=>hp.ext hX2
def LD(Q:Exit→List SV→St→Prop):Exit→List SV→St→Prop
 | .goto _=>fun _ _=>False
 | e=>Q e
theorem xX{c:Code}{Q:Exit→List SV→St→Prop}{env:List SV}{st:St}(h:AWp P c (LD Q) env st):AWp P (.scope c) Q env st:=by
 intro σ w a hI hR D hd;refine wp_scope_straight (wp_mono (h σ w a hI hR hd) fun e a' w' hp=>?_);cases e with
 | goto l=>obtain⟨_,_,_,_,hk,_⟩:=hp;exact hk.elim
 | _=>exact hp
@[go_sem] theorem Cq{Q:Exit→List SV→St→Prop}:LD Q .normal=Q .normal:=rfl
@[go_sem] theorem Ia{Q:Exit→List SV→St→Prop}:LD Q .ret=Q .ret:=rfl
@[go_sem] theorem CO{Q:Exit→List SV→St→Prop}{id:Nat}:LD Q (.exit id)=Q (.exit id):=rfl
theorem Inv.glob{st:St}{σ:Sig}{w:World}(hI:Inv st σ w){id b:Nat}{v:Value}(h:st[id]?=some (.glob b v)):w.cell? ⟨b,0,none⟩=some v:=(hI.globs id b v h).2.1
theorem Yt{f:FuncId}{args:List SV}{K:SV→St→Prop}{st:St}{x:SV}{v:Value}(hv:∀ s σ w,Rep s σ w x v)(hk:K x st)
  (h:∀ σ w vs,Inv st σ w→RepArgs st σ w args vs→Calls P f vs w fun e w'=>e = .returned v∧w'=w):ACalls P f args K st:=by
 intro σ w vs hI hR;refine (h σ w vs hI hR).mono ?_;rintro e w' ⟨rfl,rfl⟩;exact⟨v,x,st,σ,rfl,hk,hI,hv _ _ _,Ext.refl _ _ _⟩
theorem Hv{st:St}{σ:Sig}{w:World}{a b:Value}{vs:Array Value}(hR:RepArgs st σ w [.sc a,.sc b] vs):vs=#[a,b]:=by
 have h1:=hR.1;have h2:=hR.2 0 (by simp);have h3:=hR.2 1 (by simp);simp only[xlC,xlN,List.getD_cons_zero,xgS] at h1 h2 h3;apply Array.ext
 ·simpa using h1
 ·intro i hi hj;simp only[xsA,xlC,xlN] at hj;match i with
  | 0=>have:=qw h2;simp[Array.getD,hi] at this;simpa using this
  | 1=>have:=qw h3;simp[Array.getD,hi] at this;simpa using this
  | i+2=>omega
end Go.AL
namespace Go.AL
open Go Go.RowKit
variable {P:Program}
theorem cL{w:World}{b:Nat}{v:Value}(hc:w.cell? ⟨b,0,none⟩=some v):Inv [.glob b v] (FO w) w∧Ext [] (FO w) w [.glob b v] (FO w) w:=by
 have hb:b<w.heap.size:=by
  unfold World.cell? at hc;simp only at hc;cases h:w.heap[b]? with
  | none=>rw[h] at hc;cases hc
  | some o=>exact (Array.getElem?_eq_some_iff.1 h).1
 have one:∀ {id:Nat} {o:Ob},([Ob.glob b v]:St)[id]?=some o→id=0∧o = .glob b v:=by
  intro id o h;cases id with
  | zero=>exact⟨rfl,(Option.some.inj h).symm⟩
  | succ n=>simp at h
 refine⟨⟨fun id l h=>(by cases (one h).2),fun id v b h=>(by cases (one h).2),fun i j b' hi hj h1 h2=>(by cases h1),fun b' hb'=>?_,fun id v z cs h=>(by cases (one h).2),fun id l h=>(by cases (one h).2),fun id b' v' h=>?_⟩,?_⟩
 ·simp only[FO,if_neg (Nat.not_lt.2 hb')]
 ·obtain⟨rfl,h2⟩:=one h;cases h2;refine⟨rfl,hc,?_⟩;simp only[FO,if_pos hb];trivial
 ·exact { os:=rfl,tape:=rfl,output:=rfl,size:=Nat.le_refl _,lock:=fun _ _ _ h1 h2=>⟨h1,h2⟩,all:=fun _ _ _=>⟨rfl,rfl⟩,kcells:=fun _ _ h=>by simp at h,ktok:=fun _ _ h=>by simp at h,karrs:=fun _ _ _ _ h=>by simp at h,kmaps:=fun _ _ h=>by simp at h }
theorem um{f:FuncId}{args:List SV}{vs:Array Value}{w:World}{b:Nat}{v:Value}(hc:w.cell? ⟨b,0,none⟩=some v)(h:ACalls P f args (fun x _=>x = .sc (.bool true)) [.glob b v])(hr:RepArgs [] (FO w) w args vs) :
  Calls P f vs w fun e w'=>e = .returned (.bool true)∧Below w.heap.size w w':=by
 obtain⟨hI,hX0⟩:=cL hc;refine (h (FO w) w vs hI ⟨hr.1,fun i hi=>(hr.2 i hi).ext hX0⟩).mono ?_;rintro e w' ⟨v,x,s,σ',rfl,rfl,hI,hrep,hX⟩;refine⟨by rw[qw hrep],hX.os,hX.tape,hX.output,hX.size,fun k hk=>?_⟩;have:((FO w).lock k).still=true:=by simp only[FO,if_pos hk];rfl
 exact (hX.all k hk this).2
theorem wE{H:Type}{enc:TypeId×Value→H}{a:Assume}{C:Checked}{os:Os}{f:FuncId}{fn:Func}{s:ChangeSpec}{conds:List PathCond}{apart fresh handsOn again:Bool}{X:World→Array Value→Prop}
  (own:ownKnob C.prog.godebug=none) (started:os.Started) (noInit:C.prog.inits.idxOf? f=none) (hfn:C.prog.funcs[f]?=some fn)
  (wit:∃ (w:World) (tape:Tape) (i:Input),w.os=os∧(w.forCall tape i).Shaped C.prog∧i.vars=[]∧Input.okWide C.prog (w.forCall tape i) .any w.heap.size f i ∧
   ((s.pre enc C.prog fn conds apart (w.forCall tape i).memory i.args∧X (w.forCall tape i).memory i.args)∧sizedMet enc C.prog fn (OpenSpec.ofChange s) apart (w.forCall tape i).memory i.args)∧a.holds C.prog (lone (Frame.enter C.prog f i.args .normal) [] (w.forCall tape i)))
  (law:∀ (W:World) (base:Nat) (args:Array Value) (ds gs:List (DataW H)) (before:List MemPlace),W.ShapedOpen C.prog →
   (∀ (j:Nat) t v,fn.params[j]?=some t→args[j]?=some v→Value.okWide C.prog W .any base t v)→DataW.Whole enc C.prog fn.params.toList s.vars apart W args.toList ds gs before →
   Calls C.prog f args W fun e W'=>∃ v,e = .returned v∧s.post enc C.prog fn apart fresh handsOn again W args v W') :
  ReturnsInHanded a C os f .any (fun w args=>(s.pre enc C.prog fn conds apart w args∧X w args)∧sizedMet enc C.prog fn (OpenSpec.ofChange s) apart w args) (s.post enc C.prog fn apart fresh handsOn again):=by
 refine returnsInHanded_of_calls own started noInit wit fun w tape i _ hsh _ hok hpre _=>?_;obtain⟨_,_,_,g,hg,_,_,_,_,hval⟩:=hok;cases Option.some.inj (hg.symm.trans hfn);obtain⟨⟨⟨ds,gs,before,hw,_⟩,_⟩,_⟩:=hpre;refine (law _ w.heap.size i.args ds gs before hsh hval (hw.of_heap (w':=w.forCall tape i) (by rfl))).mono fun e W' hq=>?_;obtain⟨v,rfl,hp⟩:=hq;exact ChangeSpec.post_blind hp
end Go.AL
namespace Go.AL
variable {P:Program}
theorem Ext.frz{st:St}{σ:Sig}{w:World}{b:Nat}(hb:∀ i,i<st.length→σ.μ i≠some b)(hl:(σ.lock b).still=false):Ext st σ w st (σ.setLock b .all) w where
 os:=rfl
 tape:=rfl
 output:=rfl
 size:=Nat.le_refl _
 lock:=fun c o v h k=>by
  refine⟨?_,k⟩;by_cases e:c=b
  ·subst e;exact E' σ c o
  ·simp only[Sig.setLock,if_neg e];exact h
 all:=fun c hc hs=>by
  have e:c≠b:=by rintro rfl;rw[hl] at hs;cases hs
  exact⟨by simp only[Sig.setLock,if_neg e],rfl⟩
 kcells:=fun id l h=>⟨⟨l,h⟩,rfl⟩
 ktok:=fun id v h=>⟨v,h,Nat.le_refl _,fun _=>⟨rfl,fun c hc=>by
  have e:c≠b:=by rintro rfl;exact hb id (zi h) hc
  exact⟨by simp only[Sig.setLock,if_neg e],rfl⟩⟩⟩
 karrs:=fun id v z cs h=>⟨v,cs,h,Nat.le_refl _,fun _=>⟨rfl,rfl,fun c vals T fr _ hh=>⟨vals,hh,rfl⟩⟩⟩
 kmaps:=fun id es h=>⟨⟨es,h⟩,rfl,fun c ents clock _ hh=>⟨ents,clock,hh,Nat.le_refl _,fun _ _=>rfl⟩⟩
theorem Inv.frz{st:St}{σ:Sig}{w:World}{b:Nat}(hI:Inv st σ w)(hb:∀ i,i<st.length→σ.μ i≠some b)(hl:(σ.lock b).still=false)(hlt:b<w.heap.size):Inv st (σ.setLock b .all) w where
 cells:=fun id l h=>by
  obtain⟨c,cs,T,h1,h2,h3,h4,h5⟩:=hI.cells id l h;have e:c≠b:=by rintro rfl;exact hb id (zi h) h1
  exact⟨c,cs,T,h1,h2,h3,fun j hj=>(h4 j hj).ext (Ext.frz hb hl),by simp only[Sig.setLock,if_neg e];exact h5⟩
 tok:=fun id v c h hc=>by
  have e:c≠b:=by rintro rfl;exact hb id (zi h) hc
  obtain⟨h1,h2⟩:=hI.tok id v c h hc;exact⟨h1,by simp only[Sig.setLock,if_neg e];exact h2⟩
 inj:=hI.inj
 fresh:=fun c hc=>by
  have e:c≠b:=by omega
  simp only[Sig.setLock,if_neg e];exact hI.fresh c hc
 arrs:=fun id v z cs h=>by
  refine (hI.arrs id v z cs h).imp (fun h=>h) fun ⟨c,vals,T,h1,h2,h3,h4,h5⟩=>?_;have e:c≠b:=by rintro rfl;exact hb id (zi h) h1
  exact⟨c,vals,T,h1,h2,h3,fun j hj=>(h4 j hj).ext (Ext.frz hb hl),by simp only[Sig.setLock,if_neg e];exact h5⟩
 maps:=fun id es h=>by
  obtain⟨c,ents,clock,h1,h2,h3,h4⟩:=hI.maps id es h;have e:c≠b:=by rintro rfl;exact hb id (zi h) h1
  exact⟨c,ents,clock,h1,h2,⟨h3.1,fun j hj=>⟨(h3.2.1 j hj).1,(h3.2.1 j hj).2.ext (Ext.frz hb hl)⟩,h3.2.2⟩,by simp only[Sig.setLock,if_neg e];exact h4⟩
 globs:=hI.globs_ext (Ext.frz hb hl) fun _ _ _ h=>⟨h,rfl⟩
def k8(K:SV→St→Prop)(x:SV)(s:St):Prop:=∃ (pre:List SV) (aid ver n z:Nat) (xs cs:List SV),x = .agg (pre++[.arr aid ver n])∧s[aid]?=some (.arr ver z cs)∧cs.take (n*z)=xs.flatMap SV.cells∧xs.length=n∧(∀ x∈xs,x.cells.length=z) ∧
 K (.agg (pre++[.slice .imm z xs])) (s.set aid (.arr (ver+1) z []))
theorem yy{z:Nat}:∀ {xs:List SV} (_:∀ x∈xs,x.cells.length=z) {i j:Nat} (_:i<xs.length) (_:j<z),(xs.flatMap SV.cells).getD (i*z+j) .any=(xs.getD i .any).cells.getD j .any∧i*z+j<(xs.flatMap SV.cells).length
 | [],_,i,j,hi,_=>by cases hi
 | x::xs,h,0,j,hi,hj=>by
  have hx:=h x List.mem_cons_self;rw[Nat.zero_mul,Nat.zero_add,List.flatMap_cons];refine⟨?_,by rw[xlA];omega⟩;simp only[xgE];rw[List.getElem?_append_left (by omega)];rfl
 | x::xs,h,i+1,j,hi,hj=>by
  have hx:=h x List.mem_cons_self;obtain⟨h1,h2⟩:=yy (xs:=xs) (fun y hy=>h y (List.mem_cons_of_mem _ hy)) (i:=i) (j:=j) (by simpa using hi) hj;rw[List.flatMap_cons];have e:(i+1)*z+j=z+(i*z+j):=by rw[Nat.add_mul,Nat.one_mul];omega
  refine⟨?_,by rw[xlA];omega⟩;rw[e];simp only[xgE] at h1 ⊢;rw[List.getElem?_append_right (by omega),hx,Nat.add_sub_cancel_left,h1];rfl
theorem Yh{f:FuncId}{args:List SV}{K:SV→St→Prop}{st:St}(h:ACalls P f args (k8 K) st):ACalls P f args K st:=by
 intro σ w vs hI hR;refine (h σ w vs hI hR).mono ?_;rintro e w' ⟨v,x,s,σ',rfl,⟨pre,aid,ver,n,z,xs,cs,rfl,hid,hfl,hlen,hcl,hk⟩,hI',hr,hX⟩;have hXn:Ext s σ' w' (s.set aid (.arr (ver+1) z [])) (σ'.setMu aid none) w':=Ext.arrNew hid none;have hIn:Inv (s.set aid (.arr (ver+1) z [])) (σ'.setMu aid none) w':=hI'.arrNew hid none (.inl ⟨rfl,rfl⟩) (fun c hc=>by cases hc);cases hr with
 | agg l vs hvs hr =>
 have hlast:=hr pre.length (by simp);have hpre:∀ i,i<pre.length→Rep s σ' w' (pre.getD i .any) (vs.getD i default):=fun i hi=>by
  have:=hr i (by simp;omega);rwa[show (pre++[SV.arr aid ver n]).getD i .any=pre.getD i .any by simp[xgE,List.getElem?_append_left hi]] at this
 rw[show (pre++[SV.arr aid ver n]).getD pre.length .any = .arr aid ver n by simp[xgE]] at hlast;obtain⟨σ2,hX2,hI2,hs⟩:∃ σ2,Ext (s.set aid (.arr (ver+1) z [])) (σ'.setMu aid none) w' (s.set aid (.arr (ver+1) z [])) σ2 w'∧Inv (s.set aid (.arr (ver+1) z [])) σ2 w'∧Rep (s.set aid (.arr (ver+1) z [])) σ2 w' (.slice .imm z xs) (vs.getD pre.length default):=by
  generalize vs.getD pre.length default=v1 at hlast;cases hlast with
  | arr _ _ _ v0 z0 cs0 v ho hk' hv hh =>
   rw[hid] at hk';cases hk';obtain⟨q1,q2⟩:=hh rfl;rcases q2 with⟨n1,n2,a,rfl⟩ | ⟨b,cap,vals,T,r1,rfl,r3,r4,r5⟩
   ·have hz:xs=[]:=List.eq_nil_of_length_eq_zero (by omega);subst hz;refine⟨_,Ext.refl ..,hIn,?_⟩;cases a with
    | none=>exact .nil _ _ trivial
    | some a=>exact .slice .imm z [] a 0 (fun _ _=>default) (Nat.le_refl _) (fun h=>absurd rfl h) (fun i hi=>by cases hi) (fun i j hi=>by cases hi) (fun i j hi=>by cases hi) trivial
   ·rcases hI'.arrs _ ver z _ hid with⟨m1,_⟩ | ⟨b',vals',T',m1,m2,m3,m4,m5⟩
    ·rw[m1] at r1;cases r1
    rw[r1] at m1;cases m1;rw[r4] at m2;cases m2;have hb:∀ i,i<(s.set aid (.arr (ver+1) z [])).length→(σ'.setMu aid none).μ i≠some b:=by
     intro i hi e;by_cases hne:i=aid
     ·subst hne;simp[Sig.setMu] at e
     ·simp only[Sig.setMu,if_neg hne] at e;exact hne (hI'.inj i aid b (by simpa using hi) (zi hid) e r1)
    have hl:((σ'.setMu aid none).lock b).still=false:=by simp only[Sig.setMu];rw[m5];rfl
    refine⟨_,Ext.frz hb hl,hIn.frz hb hl (qh r4),?_⟩;have hcell:∀ i j,i<xs.length→j<z→(xs.flatMap SV.cells).getD (i*z+j) .any=(xs.getD i .any).cells.getD j .any∧i*z+j<(xs.flatMap SV.cells).length:=fun i j hi hj=>yy hcl hi hj;have hcs:∀ k,k<(xs.flatMap SV.cells).length→k<cs.length∧cs.getD k .any=(xs.flatMap SV.cells).getD k .any:=fun k hk=>by
     have h1:=congrArg List.length hfl;rw[List.length_take] at h1;refine⟨by omega,?_⟩;rw[←hfl];have:k<n*z:=by omega
     simp[xgE,this]
    have key:=Rep.slice (st:=s.set aid (.arr (ver+1) z [])) (σ:=(σ'.setMu aid none).setLock b .all) (w:=w') .imm z xs ⟨b,0,none⟩ cap (fun i j=>vals.getD (i*z+j) default) (by omega) (fun _=>rfl)
     (fun i hi=>by rw[xgE,List.getElem?_eq_getElem hi];exact hcl _ (List.getElem_mem hi))
     (fun i j hi hj=>by
      have h1:=(hcell i j hi hj).2;have h2:=(hcs _ h1).1;have h3:i*z+j<vals.size:=by omega
      refine⟨?_,E' _ b _⟩;simp[World.cell?,r4,h3,Array.getD])
     (fun i j hi hj=>by
      have h1:=hcell i j hi hj;have h2:=hcs _ h1.2;have h9:=m4 (i*z+j) h2.1;rw[h2.2,h1.1] at h9;exact h9.ext (hXn.trans (Ext.frz hb hl)))
     trivial
    rw[hlen] at key;exact key
 refine⟨_,_,_,_,rfl,hk,hI2,.agg _ vs (by rw[hvs];simp) fun i hi=>?_,hX.trans (hXn.trans hX2)⟩;by_cases hlt:i<pre.length
 ·rw[show (pre++[SV.slice .imm z xs]).getD i .any=pre.getD i .any by simp[xgE,List.getElem?_append_left hlt]];exact (hpre i hlt).ext (hXn.trans hX2)
 ·have:i=pre.length:=by simp at hi;omega
  subst this;rw[show (pre++[SV.slice .imm z xs]).getD pre.length .any = .slice .imm z xs by simp[xgE]];exact hs
end Go.AL
namespace Go.AL
variable {P:Program}
theorem Yp:∀ l:List SV,SVles l l
 | [] =>.nil
 | x::r =>.cons (SVle.refl x) (Yp r)
inductive LeE:List SV→List SV→Prop where
 | nil:LeE [] []
 | cons {x y:SV} {l r:List SV}:SVles x.cells y.cells→LeE l r→LeE (x::l) (y::r)
theorem LeE.len{l r:List SV}(h:LeE l r):l.length=r.length:=by
 induction h with
 | nil=>rfl
 | cons _ _ ih=>simp[ih]
theorem LeE.at{l r:List SV}(h:LeE l r):∀ i,SVles (l.getD i .any).cells (r.getD i .any).cells:=by
 induction h with
 | nil=>intro i;exact Yp _
 | cons h1 _ ih =>
  intro i;cases i with
  | zero=>simpa using h1
  | succ i=>simpa using ih i
theorem LeE.refl:∀ l:List SV,LeE l l
 | [] =>.nil
 | x::r =>.cons (Yp _) (LeE.refl r)
theorem LeE.append{a b c d:List SV}(h:LeE a b)(h2:LeE c d):LeE (a++c) (b++d):=by
 induction h with
 | nil=>exact h2
 | cons h1 _ ih=>exact .cons h1 ih
theorem SVle.elems{m:Mode}{z:Nat}{l r:List SV}(h:LeE l r):SVle (.slice m z l) (.slice m z r):=by
 intro st σ w v hv;have hlen:=h.len;generalize hx:SV.slice m z l=x at hv;cases hv with
 | nil m z hm' =>
  cases hx;cases h with
  | nil=>exact .nil _ _ hm'
 | slice m z l a cap vals hcap hsp hz hc hr hm' =>
  cases hx;rw[hlen];refine .slice m z r a cap vals (by omega) (fun hne=>hsp (by rintro rfl;apply hne;cases h;rfl)) (fun i hi=>?_) (fun i j hi hj=>hc i j (by omega) hj) (fun i j hi hj=>(h.at i).at j _ _ _ _ (hr i j (by omega) hj)) ?_
  ·rw[←(h.at i).len];exact hz i (by omega)
  ·rw[←hlen];exact hm'
 | _=>cases hx
theorem SVles.get{l r:List SV}(h:SVles l r):r.length=l.length∧∀ i,SVle (l.getD i .any) (r.getD i .any):=⟨h.len.symm,h.at⟩
theorem VE{c:Code}{Q:Exit→List SV→St→Prop}(M:List Nat)(id:Nat)(I:Nat→List SV→St→Prop){env env0:List SV}{st:St}{n:Nat}(hl:Yl env env0)
  (h0:∃ l l',st[id]?=some (.cells l)∧SVles l l'∧I n env0 (st.set id (.cells l')))
  (round:∀ n env st,I n env st→Qo P M c (U8 (fun e s=>∃ m e',m<n∧Yl e e'∧∃ l l',s[id]?=some (.cells l)∧SVles l l'∧I m e' (s.set id (.cells l'))) Q) env st):AWp P (.loop c) Q env st:=by
 obtain⟨l0,l0',a1,a2,a3⟩:=h0;refine WV hl (j5 (fun m e s=>∃ e' l l',Yl e e'∧s[id]?=some (.cells l)∧SVles l l'∧I m e' (s.set id (.cells l'))) ⟨env0,l0,l0',?_,a1,a2,a3⟩ ?_)
 ·have key:∀ l:List SV,Yl l l:=by
   intro l;induction l with
   | nil=>trivial
   | cons x r ih=>exact⟨.inr (.inl rfl),ih⟩
  exact key env0
 ·rintro m e s ⟨e',l,l',hle,h1,h2,hi⟩;refine WV hle (oC id h1 h2.get.1 h2.get.2 ((D7 (round m e' _ hi)).mono fun x env st hq=>?_));cases x <;> first | exact hq | (obtain⟨m',e2,g1,g2,l2,l2',g3,g4,g5⟩:=hq;exact⟨m',g1,e2,l2,l2',g2,g3,g4,g5⟩)
end Go.AL
namespace Go.AL
variable {P:Program}
theorem Gh{M:List Nat}{ds:List (Option Tmp)}{st:St}{K:List SV→Prop}:∀ (l:List Oper) (env:List SV),XG P M ds l env st K=X6 P M ds (l.map fun _=>(0,[])) l env st [] (fun e _=>K e)
 | [],env=>rfl
 | o::r,env=>by
  show Zg P M ds o env st (fun x=>XG P M ds r (Zx env o.dst x) st K)=Zg P M ds o env st (fun x=>X6 P M ds (r.map fun _=>(0,[])) r (Zx env o.dst x) st [] fun e _=>K e);congr 1
  funext x
  exact Gh r _
theorem mH{M:List Nat}{ds:List (Option Tmp)}{st:St}{Q:List SV→St→Prop}:∀ (l:List Oper) (env:List SV),X6 P M ds (l.map fun _=>(0,[])) l env st [] (fun e _=>Q e st)→X6 P M ds (l.map fun _=>(0,[])) l env st [] Q:=by
 intro l env h;have e:∀ (l:List Oper) (env:List SV),X6 P M ds (l.map fun _=>(0,[])) l env st [] (fun e _=>Q e st)=X6 P M ds (l.map fun _=>(0,[])) l env st [] Q:=by
  intro l;induction l with
  | nil=>intro env;rfl
  | cons o r ih =>
   intro env;show Zg P M ds o env st _=Zg P M ds o env st _;congr 1
   funext x
   exact ih _
 rw[←e];exact h
theorem oV:∀ (n:Nat) (l:List Oper),yO n (l.map fun _=>((0:Nat),([]:List Nat)))=[]
 | _,[]=>rfl
 | n,o::r=>oV (n+1) r
theorem BE(sz:Nat):∀ (n:Nat) (l:List Oper),KP [] sz n (l.map fun _=>((0:Nat),([]:List Nat)))=true
 | _,[]=>rfl
 | n,o::r=>by
  show (([]:List Nat).contains n==(0==1 || 0==3)&&(if (0==1 || 0==3)=true then _ else true)&&KP [] sz (n+1) _)=true;rw[BE sz (n+1) r];simp
theorem zy(M:List Nat){id:Nat}{ops:Array Oper}{Q:Exit→List SV→St→Prop}{env:List SV}{st:St}(hm:P.follows .mixedOrders=true)(hf:Wl ops=true)
  (h:XG P M (ops.toList.map (·.dst)) ops.toList env st fun e=>Q .normal e st):AWp P (.region id ops true) Q env st:=by
 rw[Gh] at h;refine zA M (ops.toList.map fun _=>(0,[])) hm ?_ (mH ops.toList env h);unfold Gp;rw[oV,BE,hf];simp only[Bool.true_and,Bool.and_true,List.all_nil,List.contains_nil,Bool.false_or,Bool.true_or,Bool.and_self,List.all_cons,J'];rw[List.all_eq_true];intro i hi;have:i<ops.size:=by simpa using hi
 simp;omega
end Go.AL
namespace Go.AL
attribute [go_sem] imp_self implies_true reduceCtorEq false_imp_iff true_imp_iff decide_true decide_false Int.toNat_natCast Int.toNat_zero Int.toNat_one Int.natCast_nonneg Int.le_refl Nat.le_refl Nat.reduceAdd Nat.reduceMul Nat.reduceLeDiff Nat.reduceLT Int.reduceLE Int.reduceLT Int.reduceEq Nat.add_zero Nat.reduceBEq Nat.reduceEqDiff Bool.not_true Bool.not_false Bool.and_false Bool.false_and Bool.or_true Bool.true_or Bool.or_false Bool.false_or vW bW bT Ct uc jo Array.toList_append xcA xnA qV List.contains_cons List.contains_nil
attribute [go_sem] tY uO yc xk uL lL rj tz xW
end Go.AL
