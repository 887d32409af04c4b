/- The tokens of a node's text; the text is their words, with a blank ahead of each. -/
import Derived.Test.YtkokccjfpebomaaGreatDoorT1
import Derived.Test.YtkokccjfpebomaaGreatDoorS7
import Derived.Test.YtkokccjfpebomaaGreatDoorN9
set_option linter.all false
namespace Go.AL
def sg(s:Tx):Tk:=⟨5,s,0,0⟩
def ky(s:Tx):Tk:=⟨6,s,0,0⟩
def nm(s:Tx):Tk:=⟨3,s,0,0⟩
def cn(s:Tx):Tk:=⟨4,s,0,0⟩
def GX(t:Tk):Tx:=if t.kind=1 then X8 t.num else if t.kind=2 then X' t.text else t.text
def jb(l:List Tk):Tx:=l.flatMap fun t=>32::GX t
section
variable (X:Nd→Int→List Tk)
def QC(n:Nd)(m w:Int):List Tk:=if JX m n=true then sg [40]::(X n 7++[sg [41]]) else X n w
def JI(w:Int):List Nd→List Tk
 | []=>[]
 | k::r=>QC X k 0 w++JI w r
def Bc:List Nd→List Tk
 | a::b::r=>sg [124]::(X a 7++sg [45,62]::(QC X b 7 7++Bc r))
 | _=>[]
def Bj(n:Nd)(w:Int):List Tk :=
 if qM n.kind≠[] then ky (qM n.kind)::JI X w n.kids
 else if n.kind=1 then [⟨1,[],n.num,0⟩] else if n.kind=2 then [⟨2,n.text,0,0⟩] else if n.kind=3 then [sg [40],sg [41]]
 else if n.kind=4 then [nm n.text] else if n.kind=5 then cn n.text::JI X w n.kids
 else if n.kind=24 then [sg [95]] else if n.kind=19 then [ky [114,101,116,114,121]]
 else if n.kind=6 then ky [102,117,110]::nm n.text::sg [45,62]::QC X (kid n 0) w w
 else if n.kind=7 then QC X (kid n 0) 1 w++QC X (kid n 1) 0 w
 else if n.kind=8 then ky [108,101,116]::nm n.text::sg [61]::(QC X (kid n 0) w w++ky [105,110]::QC X (kid n 1) w w)
 else if n.kind=9 then ky [108,101,116]::ky [114,101,99]::nm n.text::sg [61]::(QC X (kid n 0) w w++ky [105,110]::QC X (kid n 1) w w)
 else if n.kind=10 then ky [105,102]::(QC X (kid n 0) w w++ky [116,104,101,110]::(QC X (kid n 1) w w++ky [101,108,115,101]::QC X (kid n 2) w w))
 else if n.kind=11 then ky [109,97,116,99,104]::(QC X (kid n 0) 7 7++ky [119,105,116,104]::(Bc X n.kids.tail++[ky [101,110,100]]))
 else if n.kind=12 then ky [116,114,121]::(QC X (kid n 0) 7 7++ky [119,105,116,104]::nm n.text::sg [45,62]::(QC X (kid n 1) 7 7++[ky [101,110,100]]))
 else if n.kind=13 then QC X (kid n 0) (Vm n.text) w++sg n.text::QC X (kid n 1) (V0 n.text) w
 else if n.kind=14 then QC X (kid n 0) 5 w++sg [59]::QC X (kid n 1) 7 7
 else []
end
def QP:Nat→Nd→Int→List Tk
 | 0=>fun _ _=>[]
 | d+1=>Bj (QP d)
theorem Q7(a b:List Tk):jb (a++b)=jb a++jb b:=by simp[jb]
theorem qJ(t:Tk)(b:List Tk):jb (t::b)=32::(GX t++jb b):=by simp[jb]
theorem ZM:jb []=[]:=rfl
theorem JB(s:Tx):GX (sg s)=s:=rfl
theorem Vd(s:Tx):GX (ky s)=s:=rfl
theorem VU(s:Tx):GX (nm s)=s:=rfl
theorem eo(s:Tx):GX (cn s)=s:=rfl
section
variable {T:Nd→Int→Tx} {X:Nd→Int→List Tk}
def sN(T:Nd→Int→Tx)(X:Nd→Int→List Tk)(c:Nd):Prop:=∀ w,32::T c w=jb (X c w)
theorem JY{c:Nd}(h:sN T X c)(m w:Int):32::zg T c m w=jb (QC X c m w):=by
 unfold zg QC JX;by_cases hb:m<qO c∨c.kind=5∧m=1
 ·rw[if_pos hb,if_pos (decide_eq_true hb)];simp only[qF,qJ,Q7,ZM,JB,←h 7,xcA,xaA,xnA,xaN]
 ·rw[if_neg hb,if_neg (by simpa using hb)];exact h w
theorem yV(w:Int):∀ (l:List Nd) (s:Tx),(∀ c∈l,sN T X c)→XJ T w s l=s++jb (JI X w l)
 | [],s,_=>by simp[XJ,JI,ZM]
 | k::r,s,h=>by
  show XJ T w (qF [s,zg T k 0 w]) r=_;rw[yV w r _ fun c hc=>h c (List.mem_cons_of_mem _ hc)];simp only[JI,Q7,qF,←JY (h k List.mem_cons_self),xaA,xcA]
theorem y8:∀ (l:List Nd) (s:Tx),(∀ c∈l,sN T X c)→Yi T s l=s++jb (Bc X l)
 | [],s,_=>by simp[Yi,Bc,ZM]
 | [a],s,_=>by simp[Yi,Bc,ZM]
 | a::b::r,s,h=>by
  show Yi T (s++qF [[32,124],T a 7,[45,62],zg T b 7 7]) r=_;rw[y8 r _ fun c hc=>h c (List.mem_cons_of_mem _ (List.mem_cons_of_mem _ hc))];have ha:=h a List.mem_cons_self 7;have hb:=JY (h b (List.mem_cons_of_mem _ List.mem_cons_self)) 7 7;simp only[Bc,Q7,qJ,JB,qF,←ha,←hb,xaA,xcA,xnA]
theorem cw{pt f:Bool}{n:Nd}(hs:Shape pt f n)(h:∀ c∈n.kids,sN T X c)(w:Int):32::QE T n w=jb (Bj X n w):=by
 have kk:∀ (l:List Nd) (s:Tx),(∀ c∈l,sN T X c)→XJ T w s l=s++jb (JI X w l):=yV w;have W:∀ c∈n.kids,∀ m w,32::zg T c m w=jb (QC X c m w):=fun c hc=>JY (h c hc);cases hs with
 | int _ _ m a h'=>simp[QE,Bj,qa,qM,Nd.kind,Nd.kids,Nd.num,qJ,ZM,GX]
 | text _ t a h'=>simp[QE,Bj,qa,qM,Nd.kind,Nd.kids,Nd.text,qJ,ZM,GX]
 | unit _ a=>simp[QE,Bj,qa,qM,Nd.kind,Nd.kids,qJ,ZM,GX,sg]
 | retry _ a=>simp[QE,Bj,qa,qM,Nd.kind,Nd.kids,qJ,ZM,GX,ky]
 | any _ a=>simp[QE,Bj,qa,qM,Nd.kind,Nd.kids,qJ,ZM,GX,sg]
 | name _ _ t a h'=>simp[QE,Bj,qa,qM,Nd.kind,Nd.kids,Nd.text,qJ,ZM,GX,nm,XJ]
 | con _ _ t a ks h' hl =>
  simp only[Nd.kids] at h;simp[QE,Bj,qa,qM,Nd.kind,Nd.kids,Nd.text,qJ,ZM,eo,kk _ _ h]
 | fn _ t a k h' =>
  have w0:=W k (by simp[Nd.kids]);simp[QE,Bj,qa,qM,Nd.kind,Nd.kids,Nd.text,kid,qF,qJ,Q7,ZM,Vd,VU,JB,←w0]
 | call _ a k l =>
  have w0:=W k (by simp[Nd.kids]);have w1:=W l (by simp[Nd.kids]);simp[QE,Bj,qa,qM,Nd.kind,Nd.kids,Nd.text,kid,qF,qJ,Q7,ZM,←w0,←w1]
 | lt _ t a k l h' =>
  have w0:=W k (by simp[Nd.kids]);have w1:=W l (by simp[Nd.kids]);simp[QE,Bj,qa,qM,Nd.kind,Nd.kids,Nd.text,kid,qF,Z',qJ,Q7,ZM,Vd,VU,JB,←w0,←w1]
 | rc _ t a k l h' hk =>
  have w0:=W k (by simp[Nd.kids]);have w1:=W l (by simp[Nd.kids]);simp[QE,Bj,qa,qM,Nd.kind,Nd.kids,Nd.text,kid,qF,Z',qJ,Q7,ZM,Vd,VU,JB,←w0,←w1]
 | iff _ a k l m =>
  have w0:=W k (by simp[Nd.kids]);have w1:=W l (by simp[Nd.kids]);have w2:=W m (by simp[Nd.kids]);simp[QE,Bj,qa,qM,Nd.kind,Nd.kids,Nd.text,kid,qF,qJ,Q7,ZM,Vd,VU,JB,←w0,←w1,←w2]
 | mtch _ a ks hl =>
  cases ks with
  | nil=>simp at hl
  | cons k ks =>
   have w0:=W k (by simp[Nd.kids]);have hr:=y8 (T:=T) (X:=X) ks [] fun c hc=>h c (by simp[Nd.kids,hc]);simp[QE,Bj,qa,qM,Nd.kind,Nd.kids,Nd.text,kid,qF,qJ,Q7,ZM,Vd,VU,JB,←w0,hr]
 | tr _ t a k l h' =>
  have w0:=W k (by simp[Nd.kids]);have w1:=W l (by simp[Nd.kids]);simp[QE,Bj,qa,qM,Nd.kind,Nd.kids,Nd.text,kid,qF,Z',qJ,Q7,ZM,Vd,VU,JB,←w0,←w1]
 | op _ t a k l h' =>
  have w0:=W k (by simp[Nd.kids]);have w1:=W l (by simp[Nd.kids]);simp[QE,Bj,qa,qM,Nd.kind,Nd.kids,Nd.text,kid,qF,bq,Vm,V0,qJ,Q7,ZM,Vd,VU,JB,←w0,←w1]
 | sq a k l =>
  have w0:=W k (by simp[Nd.kids]);have w1:=W l (by simp[Nd.kids]);simp[QE,Bj,qa,qM,Nd.kind,Nd.kids,Nd.text,kid,qF,qJ,Q7,ZM,Vd,VU,JB,←w0,←w1]
 | key1 _ kd a k h' =>
  rcases h' with rfl | rfl | rfl | rfl | rfl | rfl <;> simp[QE,Bj,qa,qM,Nd.kind,Nd.kids,qJ,Vd,kk _ _ h] <;> exact kk _ _ h
 | key2 _ kd a k l h' =>
  rcases h' with rfl | rfl <;> simp[QE,Bj,qa,qM,Nd.kind,Nd.kids,qJ,Vd,kk _ _ h] <;> exact kk _ _ h
end
theorem WX.all{pt r f n}(h:WX pt r f n):∀ c∈n.kids,∃ pt r f,WX pt r f c:=fun c hc=>by
 obtain⟨i,hi⟩:=List.getElem?_of_mem hc;obtain⟨_,⟨_,s,_,g⟩ | ⟨_,g⟩⟩:=h.kid hi
 ·exact⟨_,_,_,g⟩
 ·exact⟨_,_,_,g⟩
theorem Dq:∀ (d:Nat) {pt:Bool} {r:Nat} {f:Bool} {n:Nd},WX pt r f n→Dep d n→sN (zn d) (QP d) n
 | 0,_,_,_,_,_,hd=>by cases hd
 | d+1,pt,r,f,n,h,hd=>fun w=>cw h.shape (fun c hc=>by
  obtain⟨_,_,_,g⟩:=h.all c hc;exact Dq d g (hd.kids c hc)) w
def W4(X:Nd→List Tk):List Nd→List Tk
 | []=>[]
 | k::r=>(if 0<k.kids.length then sg [40]::(X k++[sg [41]]) else X k)++W4 X r
def EQ:Nat→Nd→List Tk
 | 0=>fun _=>[]
 | d+1=>fun n=>nm n.text::W4 (EQ d) n.kids
def VK(d:Nat):Nat→List Nd→List Tk
 | _,[]=>[]
 | i,k::r=>(if i=0 then ky [111,102] else sg [44])::(EQ d k++VK d (i+1) r)
def GH(d:Nat)(n:Nd):List Tk:=cn n.text::VK d 0 n.kids
def V'(d:Nat):Nat→List Nd→List Tk
 | _,[]=>[]
 | i,k::r=>(if 0<i then [sg [124]] else [])++(GH d k++V' d (i+1) r)
def kx(d:Nat)(n:Nd):List Tk :=
 if n.kind=28 then ky [108,101,116]::nm n.text::sg [61]::QC (QP d) (kid n 0) 6 6
 else if n.kind=29 then ky [108,101,116]::ky [114,101,99]::nm n.text::sg [61]::QC (QP d) (kid n 0) 6 6
 else ky [116,121,112,101]::nm n.text::(n.names.map nm++sg [61]::V' d 0 n.kids)
def V5(d:Nat):List Nd→List Tk
 | []=>[]
 | k::r=>kx d k++sg [59]::V5 d r
def bk(d:Nat)(n:Nd):List Tk:=V5 d n.kids.dropLast++ky [100,111]::QC (QP d) (n.kids.getLastD VQ) 7 7
theorem mT{T:Nd→Tx}{X:Nd→List Tk}:∀ (l:List Nd) (s:Tx),(∀ c∈l,32::T c=jb (X c))→XM T s l=s++jb (W4 X l)
 | [],s,_=>by simp[XM,W4,ZM]
 | k::r,s,h=>by
  have hk:=h k List.mem_cons_self;show XM T (if 0<k.kids.length then qF [s,[40],T k,[41]] else qF [s,T k]) r=_;rw[mT r _ fun c hc=>h c (List.mem_cons_of_mem _ hc)];rw[show W4 X (k::r)=(if 0<k.kids.length then sg [40]::(X k++[sg [41]]) else X k)++W4 X r from rfl];split <;> simp[qF,Q7,qJ,ZM,JB,←hk]
theorem eV:∀ (d:Nat) {n:Nd},Dep d n→32::qk d n=jb (EQ d n)
 | 0,_,h=>by cases h
 | d+1,n,h=>by
  show 32::XM (qk d) n.text n.kids=_;rw[mT n.kids n.text fun c hc=>eV d (h.kids c hc)];simp[EQ,qJ,VU]
theorem ye(d:Nat):∀ (l:List Nd) (i:Nat) (s:Tx),(∀ c∈l,Dep d c)→V1 (qk d) i s l=s++jb (VK d i l)
 | [],i,s,_=>by simp[V1,VK,ZM]
 | k::r,i,s,h=>by
  show V1 (qk d) (i+1) (qF [s,if i=0 then [111,102] else [44],qk d k]) r=_;rw[ye d r _ _ fun c hc=>h c (List.mem_cons_of_mem _ hc)];have hk:=eV d (h k List.mem_cons_self);rw[show VK d i (k::r)=(if i=0 then ky [111,102] else sg [44])::(EQ d k++VK d (i+1) r) from rfl];split <;> simp[qF,Q7,qJ,ZM,JB,Vd,←hk]
theorem yL(d:Nat):∀ (l:List Nd) (i:Nat) (s:Tx),(∀ c∈l,Dep (d+1) c)→YH d i s l=s++jb (V' d i l)
 | [],i,s,_=>by simp[YH,V',ZM]
 | k::r,i,s,h=>by
  show YH d (i+1) (qF [if 0<i then qF [s,[124]] else s,KD d k]) r=_;rw[yL d r _ _ fun c hc=>h c (List.mem_cons_of_mem _ hc)];rw[show V' d i (k::r)=(if 0<i then [sg [124]] else [])++(GH d k++V' d (i+1) r) from rfl];unfold GH KD;rw[ye d k.kids 0 k.text (h k List.mem_cons_self).kids];split <;> simp[qF,Q7,qJ,ZM,JB,eo]
theorem dW:∀ (l:List Tx) (r:Tx),32::qF (l++[r])=(l++[r]).flatMap fun s=>32::s
 | [],r=>by simp[qF]
 | [a],r=>by simp[qF]
 | a::b::l,r=>by
  have:=dW (b::l) r;simp only[xcA,qF,List.flatMap_cons] at this ⊢;rw[this]
theorem fa{d r:Nat}{n:Nd}(h:WD r n)(hd:Dep (d+1) n):32::ZU d n=jb (kx d n):=by
 cases h with
 | val t a v h hv =>
  obtain⟨_,hv⟩:=hv;have hx:∃ pt r f,WX pt r f v:=by
   obtain⟨_,s,_,g⟩ | ⟨_,g⟩:=hv
   ·exact⟨_,_,_,g⟩
   ·exact⟨_,_,_,g⟩
  obtain⟨_,_,_,hx⟩:=hx;have w0:=JY (Dq d hx (hd.kids v (by simp[Nd.kids]))) 6 6;simp[ZU,kx,qa,Nd.kind,Nd.kids,Nd.text,Z',kid,qF,qJ,Vd,VU,JB,←w0]
 | rc t a v h hv hk =>
  obtain⟨_,hv⟩:=hv;have hx:∃ pt r f,WX pt r f v:=by
   obtain⟨_,s,_,g⟩ | ⟨_,g⟩:=hv
   ·exact⟨_,_,_,g⟩
   ·exact⟨_,_,_,g⟩
  obtain⟨_,_,_,hx⟩:=hx;have w0:=JY (Dq d hx (hd.kids v (by simp[Nd.kids]))) 6 6;simp[ZU,kx,qa,Nd.kind,Nd.kids,Nd.text,Z',kid,qF,qJ,Vd,VU,JB,←w0]
 | ty t a ns ks h hn hns hl hks =>
  have e:ZU d (.mk 25 t 0 a ns ks)=YH d 0 (qF (([[116,121,112,101],t]++ns)++[[61]])) ks:=by simp[ZU,Nd.kind,Nd.text,Nd.names,Nd.kids]
  have hj:jb (ns.map nm)=ns.flatMap fun s=>32::s:=by simp[jb,List.flatMap_map,VU]
  rw[e,yL d ks 0 _ (fun c hc=>(hd.kids c hc).mono (Nat.le_succ d)),←xcA,dW];simp[kx,Nd.kind,Nd.text,Nd.names,Nd.kids,qJ,Q7,Vd,VU,JB,hj]
theorem j9{d r:Nat}:∀ (l:List Nd) (s:Tx) (L:List Tk),(∀ c∈l,WD r c∧Dep (d+1) c)→32::s=jb L++[32]→32::Xt d s l=jb (L++V5 d l)++[32]
 | [],s,L,_,h=>by simp[Xt,V5,h]
 | k::r,s,L,h,hs=>by
  show 32::Xt d (s++qF [ZU d k,[59,32]]) r=_;obtain⟨h1,h2⟩:=h k List.mem_cons_self;have hk:=fa h1 h2;rw[j9 r _ (L++(kx d k++[sg [59]])) (fun c hc=>h c (List.mem_cons_of_mem _ hc)) ?_]
  ·simp[V5]
  ·rw[←xcA,hs,Q7,Q7,←hk];simp[qF,qJ,ZM,JB]
theorem WS.x{r:Nat}{s:Slot}{c:Nd}(h:WS r s c):∃ pt r f,WX pt r f c:=by
 obtain⟨_,⟨_,s,_,g⟩ | ⟨_,g⟩⟩:=h
 ·exact⟨_,_,_,g⟩
 ·exact⟨_,_,_,g⟩
theorem pE{d:Nat}{n:Nd}(h:WP n)(hd:Dep (d+2) n):32::Zj (d+1) n=jb (bk (d+1) n):=by
 obtain⟨a,ds,e,rfl,h1,h2,h3⟩:=h;obtain⟨_,_,_,hx⟩:=h3.x;have hde:Dep (d+1) e:=hd.kids e (by simp[Nd.kids]);have w:=JY (Dq (d+1) hx hde) 7 7;have hds:=j9 (r:=40) (d:=d+1) ds [] [] (fun c hc=>⟨h2 c hc,(hd.kids c (by simp[Nd.kids,hc])).mono (Nat.le_succ _)⟩) rfl;unfold Zj bk;simp only[Nd.kids,List.dropLast_concat,List.getLastD_concat];rw[←xcA,hds,Q7,Q7,qJ,Vd,←w];simp[qF,ZM]
end Go.AL
namespace Go.AL
def WG(t:Tk):Prop:=t.pos=0∧((t.kind=1∧t.text=[]∧0≤t.num∧t.num≤4611686018427387903)∨(t.num=0∧((t.kind=2∧t.text.length≤60)∨(t.kind=3∧JJ t.text)∨(t.kind=4∧gh t.text)∨(t.kind=5∧(t.text=[45,62]∨∃ c∈signsL,t.text=[c]))∨(t.kind=6∧t.text∈keysL))))
def MC(z:Tx):Prop:=z=[]∨∃ y,z=32::y
theorem GC{p:UInt8→Bool}(h32:p 32=false){z:Tx}(hz:MC z):∀ w:Tx,(∀ d∈w,p d=true)→zR p (w++z)=w.length
 | [],_=>by
  rcases hz with rfl | ⟨y,rfl⟩
  ·rfl
  ·show zR p (32::y)=0;rw[zR];simp[h32]
 | c::w,h=>by
  rw[xcA,zR,if_pos (h c List.mem_cons_self),GC h32 hz w fun d hd=>h d (List.mem_cons_of_mem _ hd)];rfl
theorem jv(w z:Tx):(w++z).take w.length=w:=by simp
theorem jf(w:Tx)(x:UInt8):ZS (w++[x])=10*ZS w+(x.toNat-48):=by simp[ZS]
theorem nj(n:Nat):zV (UInt8.ofNat (48+n % 10))=true∧(UInt8.ofNat (48+n % 10)).toNat-48=n % 10:=by
 have h:n % 10<10:=Nat.mod_lt _ (by decide);generalize n % 10=m at h;match m,h with
 | 0,_ | 1,_ | 2,_ | 3,_ | 4,_ | 5,_ | 6,_ | 7,_ | 8,_ | 9,_=>exact⟨by decide,by decide⟩
 | m+10,h=>omega
theorem BN:∀ (k n:Nat) (acc:Tx),n<10 ^ (k+1)→∃ ds,W5 (k+1) (n:Int) acc=ds++acc∧ds≠[]∧(∀ d∈ds,zV d=true)∧ZS ds=n
 | k,n,acc,h=>by
  have e1:(Int.tmod (n:Int) 10).natAbs=n % 10:=by
   rw[show Int.tmod (n:Int) 10=((n % 10:Nat):Int) from rfl];exact Int.natAbs_natCast _
  have e2:Int.tdiv (n:Int) 10=((n / 10:Nat):Int):=rfl;obtain⟨b1,b2⟩:=nj n;rw[W5];simp only[e1,e2];by_cases hz:n / 10=0
  ·rw[if_pos (by rw[hz];rfl)];refine⟨[UInt8.ofNat (48+n % 10)],rfl,by simp,fun d hd=>by rw[List.mem_singleton.1 hd];exact b1,?_⟩;have:=jf [] (UInt8.ofNat (48+n % 10));rw[xnA] at this;rw[this,b2];simp[ZS];omega
  ·rw[if_neg (by omega)];cases k with
   | zero=>simp at h;omega
   | succ k =>
    obtain⟨ds,h1,h2,h3,h4⟩:=BN k (n / 10) (UInt8.ofNat (48+n % 10)::acc) (by rw[Nat.pow_succ] at h;omega);refine⟨ds++[UInt8.ofNat (48+n % 10)],by rw[h1];simp,by simp,fun d hd=>?_,by rw[jf,h4,b2];omega⟩;rcases List.mem_append.1 hd with hd | hd
    ·exact h3 d hd
    ·rw[List.mem_singleton.1 hd];exact b1
theorem vl{m:Int}(h:0≤m∧m≤4611686018427387903):X8 m≠[]∧(∀ d∈X8 m,zV d=true)∧(ZS (X8 m):Int)=m:=by
 have e:ZW m=m:=by unfold ZW;simp only[Int.bmod_def];split <;> omega
 obtain⟨n,rfl⟩:∃ n:Nat,m=n:=⟨m.toNat,by omega⟩;obtain⟨ds,h1,h2,h3,h4⟩:=BN 19 n [] (by have:=h.2;omega);have hs:X8 (n:Int)=ds:=by
  unfold X8;rw[e,if_neg (by omega),h1];simp
 rw[hs];exact⟨h2,h3,by rw[h4]⟩
theorem fz:∀ n,n<256→YK (YL (UInt8.ofNat n >>> 4))=some (n / 16)∧YK (YL (UInt8.ofNat n &&& 15))=some (n % 16):=by decide +kernel
theorem cB(c:UInt8):YK (YL (c >>> 4))=some (c.toNat / 16)∧YK (YL (c &&& 15))=some (c.toNat % 16)∧UInt8.ofNat (16*(c.toNat / 16)+c.toNat % 16)=c:=by
 have h:=fz c.toNat c.toNat_lt;rw[UInt8.ofNat_toNat] at h;exact⟨h.1,h.2,by rw[Nat.div_add_mod];exact UInt8.ofNat_toNat⟩
theorem VR(z:Tx):∀ (s b:Tx) (m k:Nat),(s.flatMap qB).length<m→(b++s).length≤60→XR m (s.flatMap qB++34::z) b k = .ok (b++s,k+(s.flatMap qB).length+1)
 | [],b,m,k,hm,hl=>by
  obtain⟨m,rfl⟩:∃ j,m=j+1:=⟨m-1,by omega⟩;simp only[List.flatMap_nil,xnA,xaN,xlN] at hl ⊢;rw[Go.Proofs.unq_step,if_neg (by decide),if_pos rfl,if_neg (by omega)]
 | c::s,b,m,k,hm,hl=>by
  obtain⟨m,rfl⟩:∃ j,m=j+1:=⟨m-1,by omega⟩;rw[List.flatMap_cons,xlA] at hm;have hb:(b++[c]++s).length≤60:=by simpa using hl
  rw[List.flatMap_cons,xaA,xlA];have fin:∀ {k':Nat} {j:Nat},k'=k+j→(.ok (b++[c]++s,k'+(s.flatMap qB).length+1):Except Int (Tx×Nat)) = .ok (b++c::s,k+(j+(s.flatMap qB).length)+1):=by
   intro k' j e;rw[e];simp;omega
  by_cases hp:YB c=true
  ·rw[show qB c=[c] by unfold qB;rw[if_pos hp]] at hm ⊢;have hp':=hp;unfold YB at hp';simp only[Y4,decide_eq_true_eq,bne_iff_ne,ne_eq] at hp';have h10:c≠10:=fun x=>by rw[x] at hp';exact absurd hp'.1.1.1 (by decide)
   rw[List.singleton_append,Go.Proofs.unq_step,if_neg h10,if_neg hp'.1.2,if_neg hp'.2,if_pos hp];rw[VR z s (b++[c]) m (k+1) (by simp only[xlC,xlN] at hm;omega) hb];exact fin rfl
  ·by_cases h10:c=10
   ·subst h10;rw[show qB 10=[92,110] from rfl] at hm ⊢;show XR (m+1) (92::110::_) b k=_;rw[Go.Proofs.unq_step,if_neg (by decide),if_neg (by decide),if_pos rfl];have he:∀ r:Tx,Jl (110::r) = .ok (10,1):=fun r=>rfl;rw[he];show XR m (s.flatMap qB++34::z) _ _=_;rw[VR z s (b++[10]) m (k+1+1) (by simp only[xlC,xlN] at hm;omega) hb];exact fin (by simp)
   ·by_cases h34:c=34∨c=92
    ·rw[show qB c=[92,c] by unfold qB;rw[if_neg hp,if_neg h10,if_pos h34]] at hm ⊢;show XR (m+1) (92::c::_) b k=_;rw[Go.Proofs.unq_step,if_neg (by decide),if_neg (by decide),if_pos rfl];have he:∀ r:Tx,Jl (c::r) = .ok (c,1):=fun r=>by rcases h34 with rfl | rfl <;> rfl
     rw[he];show XR m (s.flatMap qB++34::z) _ _=_;rw[VR z s (b++[c]) m (k+1+1) (by simp only[xlC,xlN] at hm;omega) hb];exact fin (by simp)
    ·rw[show qB c=[92,120,YL (c >>> 4),YL (c &&& 15)] by unfold qB;rw[if_neg hp,if_neg h10,if_neg h34]] at hm ⊢;obtain⟨x1,x2,x3⟩:=cB c;show XR (m+1) (92::120::YL (c >>> 4)::YL (c &&& 15)::_) b k=_;rw[Go.Proofs.unq_step,if_neg (by decide),if_neg (by decide),if_pos rfl];have he:∀ r:Tx,Jl (120::YL (c >>> 4)::YL (c &&& 15)::r) = .ok (c,3):=fun r=>by
      unfold Jl;simp only[x1,x2,x3];rfl
     rw[he];show XR m (s.flatMap qB++34::z) _ _=_;rw[VR z s (b++[c]) m (k+1+3) (by simp only[xlC,xlN] at hm;omega) hb];exact fin (by simp)
theorem vZ(s:Tx):(X' s).length=(s.flatMap qB).length+2:=by simp[X']
theorem Vq{c:UInt8}(h:qY c=true∨qL c=true):zV c=false∧c≠34∧c≠32∧c≠9∧c≠10∧c≠35∧(qY c || qL c)=true∧zH c=true∧(qY c=true→qL c=false):=by
 have all:∀ n,n<256→(qY (UInt8.ofNat n)=true∨qL (UInt8.ofNat n)=true)→zV (UInt8.ofNat n)=false∧UInt8.ofNat n≠34∧UInt8.ofNat n≠32∧UInt8.ofNat n≠9∧UInt8.ofNat n≠10∧UInt8.ofNat n≠35∧(qY (UInt8.ofNat n) || qL (UInt8.ofNat n))=true∧zH (UInt8.ofNat n)=true∧(qY (UInt8.ofNat n)=true→qL (UInt8.ofNat n)=false):=by decide +kernel
 have:=all c.toNat c.toNat_lt;rw[UInt8.ofNat_toNat] at this;exact this h
theorem jA{c:UInt8}(h:zV c=true):c≠32∧c≠9∧c≠10∧c≠35:=by
 have all:∀ n,n<256→zV (UInt8.ofNat n)=true→UInt8.ofNat n≠32∧UInt8.ofNat n≠9∧UInt8.ofNat n≠10∧UInt8.ofNat n≠35:=by decide +kernel
 have:=all c.toNat c.toNat_lt;rw[UInt8.ofNat_toNat] at this;exact this h
theorem vE:∀ c∈signsL,zV c=false∧c≠34∧c≠32∧c≠9∧c≠10∧c≠35∧(qY c || qL c)=false:=by decide
theorem xQ:∀ s∈keysL,∃ c r,s=c::r∧qY c=true∧(∀ d∈r,zH d=true)∧s.length≤16:=by
 have h:(keysL.all fun s=>match s with
  | []=>false
  | c::r=>qY c&&r.all zH&&decide (s.length≤16))=true:=by decide +kernel
 intro s hs;have:=List.all_eq_true.1 h s hs;cases s with
 | nil=>cases this
 | cons c r =>
  simp only[Y4,List.all_eq_true,decide_eq_true_eq] at this;exact⟨c,r,rfl,this.1.1,this.1.2,this.2⟩
def pD(w z:Tx)(t:Tk)(p:Int):Prop:=∃ c r,w++z=c::r∧c≠32∧c≠9∧c≠10∧c≠35∧XE (c::r) p = .ok (t,w.length)
theorem Eo{c:UInt8}{r z:Tx}(hz:MC z)(hc:qY c=true∨qL c=true)(hr:∀ d∈r,zH d=true)(hl:(c::r).length≤16)(p:Int) :
  pD (c::r) z ⟨if qL c then 4 else if (c::r)∈keysL then 6 else 3,c::r,0,p⟩ p:=by
 obtain⟨f1,f2,f3,f4,f5,f6,f7,f8,_⟩:=Vq hc;have hs:zR zH (c::(r++z))=(c::r).length:=by
  rw[←xcA];refine GC (by decide) hz _ fun d hd=>?_;rcases List.mem_cons.1 hd with rfl | hd
  ·exact f8
  ·exact hr d hd
 refine⟨c,r++z,rfl,f3,f4,f5,f6,?_⟩;unfold XE;dsimp only;rw[if_neg (by rw[f1];decide),if_neg f2,if_pos f7,hs,if_neg (by omega),←xcA,jv]
theorem uV{t:Tk}(h:WG t){z:Tx}(hz:MC z)(p:Int):pD (GX t) z (cD t p) p:=by
 obtain⟨kind,text,num,pos⟩:=t;obtain⟨rfl,h⟩:=h;simp only at h;rcases h with⟨rfl,rfl,h⟩ | ⟨rfl,⟨rfl,h⟩ | ⟨rfl,h⟩ | ⟨rfl,h⟩ | ⟨rfl,h⟩ | ⟨rfl,h⟩⟩
 ·obtain⟨h1,h2,h3⟩:=vl h;show pD (X8 num) z ⟨1,[],num,p⟩ p;have hs:=GC (p:=zV) (by decide) hz (X8 num) h2;cases hw:X8 num with
  | nil=>exact absurd hw h1
  | cons c r =>
   rw[hw] at h2 h3 hs;have hc:=h2 c List.mem_cons_self;obtain⟨f1,f2,f3,f4⟩:=jA hc;refine⟨c,r++z,rfl,f1,f2,f3,f4,?_⟩;rw[xcA] at hs;unfold XE;dsimp only;rw[if_pos hc,hs,←xcA,jv,if_neg (by omega),h3]
 ·show pD (X' text) z ⟨2,text,0,p⟩ p;refine⟨34,text.flatMap qB++[34]++z,by simp[X'],by decide,by decide,by decide,by decide,?_⟩;unfold XE;dsimp only;rw[if_neg (by decide),if_pos rfl];have hu:VN (34::(text.flatMap qB++[34]++z)) = .ok (text,(X' text).length):=by
   unfold VN;dsimp only;rw[if_pos rfl,xaA,List.singleton_append,VR z text [] _ 1 (by simp;omega) (by simpa using h),vZ,xnA];congr 2;omega
  rw[hu]
 ·obtain⟨c,r,rfl,h1,h2,h3,h4⟩:=h;have:=Eo hz (.inl h1) h2 h3 p;rw[if_neg (by rw[(Vq (.inl h1)).2.2.2.2.2.2.2.2 h1];decide),if_neg h4] at this;exact this
 ·obtain⟨c,r,rfl,h1,h2,h3⟩:=h;have:=Eo hz (.inr h1) h2 h3 p;rw[if_pos h1] at this;exact this
 ·show pD text z ⟨5,text,0,p⟩ p;rcases h with rfl | ⟨c,hc,rfl⟩
  ·exact⟨45,62::z,rfl,by decide,by decide,by decide,by decide,rfl⟩
  ·obtain⟨f1,f2,f3,f4,f5,f6,f7⟩:=vE c hc;refine⟨c,z,rfl,f3,f4,f5,f6,?_⟩;have hh:¬ (z.head?=some 62∧c=45):=fun x=>by
    rcases hz with rfl | ⟨y,rfl⟩
    ·simp at x
    ·simp at x
   unfold XE;dsimp only;rw[if_neg (by rw[f1];decide),if_neg f2,if_neg (by rw[f7];decide),if_pos hc,if_neg hh];rfl
 ·obtain⟨c,r,e,h1,h2,h3⟩:=xQ text h;subst e;have:=Eo hz (.inl h1) h2 h3 p;rw[if_neg (by rw[(Vq (.inl h1)).2.2.2.2.2.2.2.2 h1];decide),if_pos h] at this;exact this
def va:List Tk→Nat→List Tk
 | [],k=>[⟨0,[],0,(k:Int)⟩]
 | t::r,k=>cD t ((k+1:Nat):Int)::va r (k+1+(GX t).length)
theorem dK(l:List Tk):MC (jb l):=by
 cases l with
 | nil=>exact .inl rfl
 | cons t r=>exact .inr ⟨_,qJ t r⟩
theorem kh:∀ (l:List Tk),(∀ t∈l,WG t)→∀ k,Lx (jb l) k (va l k)
 | [],_,k =>.nil (s:=[]) (k:=k) rfl
 | t::r,h,k=>by
  obtain⟨c,r',e,f1,f2,f3,f4,ht⟩:=uV (h t List.mem_cons_self) (dK r) ((k+1:Nat):Int);have hsk:qi false (jb (t::r))=1:=by
   rw[qJ,e,rr,if_pos (.inl rfl),rr,if_neg (by simp[f1,f2,f3]),if_neg f4]
  have hd:(jb (t::r)).drop (qi false (jb (t::r)))=c::r':=by rw[hsk,qJ,e];rfl
  have hdr:(c::r').drop (GX t).length=jb r:=by rw[←e];simp
  refine .cons hd (by rw[hsk];exact ht) ?_;rw[hsk,hdr];exact kh r (fun t ht=>h t (List.mem_cons_of_mem _ ht)) _
theorem p9{t:Tk}{r:List Tk}(h:∀ x∈t::r,WG x):Lx (GX t++jb r) 0 (cD t 0::va r (GX t).length):=by
 obtain⟨c,r',e,f1,f2,f3,f4,ht⟩:=uV (h t List.mem_cons_self) (dK r) 0;have hsk:qi false (GX t++jb r)=0:=by rw[e,rr,if_neg (by simp[f1,f2,f3]),if_neg f4]
 have hdr:(c::r').drop (GX t).length=jb r:=by rw[←e];simp
 refine .cons (by rw[hsk];exact e) (by rw[hsk];exact ht) ?_;rw[hsk,hdr,Nat.add_zero,Nat.zero_add];exact kh r (fun t ht=>h t (List.mem_cons_of_mem _ ht)) _
theorem Lh:∀ (m:Nat) (r b:Tx) (k:Nat) (x:Tx) (n:Nat),XR m r b k = .ok (x,n)→x.length≤60
 | 0,r,b,k,x,n,h=>by cases h
 | m+1,[],b,k,x,n,h=>by cases h
 | m+1,c::r,b,k,x,n,h=>by
  rw[Go.Proofs.unq_step] at h;split at h
  ·cases h
  split at h
  ·split at h
   ·cases h
   ·cases h;omega
  split at h
  ·cases he:Jl r with
   | error e=>rw[he] at h;cases h
   | ok y=>rw[he] at h;exact Lh m _ _ _ _ _ h
  split at h
  ·exact Lh m _ _ _ _ _ h
  ·cases h
theorem Ek{p:UInt8→Bool}:∀ (s:Tx),∀ d∈s.take (zR p s),p d=true
 | [],d,h=>by simp at h
 | c::s,d,h=>by
  rw[zR] at h;split at h
  ·rename_i hc;rw[List.take_succ_cons] at h;rcases List.mem_cons.1 h with rfl | h
   ·exact hc
   ·exact Ek s d h
  ·simp at h
theorem pW{s:Tx}{p:Int}{t:Tk}{n:Nat}(h:XE s p = .ok (t,n)):TG t:=by
 unfold XE at h;split at h
 ·cases h
 rename_i c r;split at h
 ·split at h
  ·cases h
  ·cases h;refine⟨fun _=>⟨rfl,by show (0:Int)≤((ZS _:Nat):Int);omega,by show ((ZS _:Nat):Int)≤_;omega⟩,fun x=>by simp at x,fun x=>by simp at x,fun x=>by simp at x,fun x=>by simp at x⟩
 rename_i hd;split at h
 ·rename_i hq34;cases hu:VN (c::r) with
  | error e=>rw[hu] at h;cases h
  | ok y =>
   obtain⟨x,m⟩:=y;rw[hu] at h;cases h;refine⟨fun x=>by simp at x,fun _=>⟨?_,rfl⟩,fun x=>by simp at x,fun x=>by simp at x,fun x=>by simp at x⟩;unfold VN at hu;dsimp only at hu;rw[if_pos hq34] at hu;exact Lh _ _ _ _ _ _ hu
 split at h
 ·rename_i hs;split at h
  ·cases h
  ·rename_i hl;have hc:qY c=true∨qL c=true:=by simpa using hs
   have hf:=Vq hc;have htk:(c::r).take (zR zH (c::r))=c::r.take (zR zH r):=by rw[zR,if_pos hf.2.2.2.2.2.2.2.1,List.take_succ_cons]
   have hlen:(c::r.take (zR zH r)).length≤16:=by
    rw[←htk,List.length_take];omega
   rw[htk] at h;cases h;cases hlg:qL c with
   | true =>
    simp only[if_true];refine⟨fun x=>by simp at x,fun x=>by simp at x,fun x=>by simp at x,fun _=>⟨⟨c,_,rfl,hlg,Ek r,hlen⟩,rfl⟩,fun x=>by simp at x⟩
   | false =>
    have hsm:qY c=true:=by
     rcases hc with h | h
     ·exact h
     ·rw[hlg] at h;cases h
    simp only[Yd,if_false];by_cases hk:c::r.take (zR zH r)∈keysL
    ·rw[if_pos hk];refine⟨fun x=>by simp at x,fun x=>by simp at x,fun x=>by simp at x,fun x=>by simp at x,fun x=>by simp at x⟩
    ·rw[if_neg hk];refine⟨fun x=>by simp at x,fun x=>by simp at x,fun _=>⟨⟨c,_,rfl,hsm,Ek r,hlen,hk⟩,rfl⟩,fun x=>by simp at x,fun x=>by simp at x⟩
 split at h
 ·rename_i hsg;split at h
  ·cases h;refine⟨fun x=>by simp at x,fun x=>by simp at x,fun x=>by simp at x,fun x=>by simp at x,fun _ =>.inl rfl⟩
  ·cases h;refine⟨fun x=>by simp at x,fun x=>by simp at x,fun x=>by simp at x,fun x=>by simp at x,fun _ =>.inr ⟨c,hsg,rfl⟩⟩
 ·cases h
theorem fL{s:Tx}{k:Nat}{T:List Tk}(h:Lx s k T):∀ t∈T,TG t:=by
 induction h with
 | nil hd=>intro t ht;rw[List.mem_singleton.1 ht];simp[TG]
 | cons hd ht _ ih =>
  intro t h;rcases List.mem_cons.1 h with rfl | h
  ·exact pW ht
  ·exact ih t h
theorem YR{s:Tx}{n:Nd}{a:Int}(h:qC s=some (n,a,0)):WP n:=by
 unfold qC at h;cases hl:YY s with
 | error x =>
  obtain⟨b,f⟩:=x;rw[hl] at h;simp only[xsJ,xpJ] at h;exact absurd h.2.2 (UE hl)
 | ok T=>rw[hl] at h;exact vH (fL (Dg hl).1) h
end Go.AL
namespace Go.AL
variable {T:List Tk}
def z0(t:Tk):Tk:=cD t 0
def Tl(T:List Tk)(i:Nat)(l:List Tk):Prop:=(T.drop i).map z0=l
def zO(p:PS)(n:Nat):PS:={ p with pos:=p.pos+n }
theorem Tl.skip{i:Nat}{a b:List Tk}(h:Tl T i (a++b)):Tl T (i+a.length) b:=by
 unfold Tl at h ⊢;rw[←List.drop_drop,List.map_drop,h];simp
theorem Tl.next{i:Nat}{x:Tk}{b:List Tk}(h:Tl T i (x::b)):Tl T (i+1) b:=Tl.skip (a:=[x]) h
theorem Tl.get{i:Nat}{x:Tk}{b:List Tk}(h:Tl T i (x::b)):∃ t,T[i]?=some t∧z0 t=x:=by
 unfold Tl at h;cases hd:T.drop i with
 | nil=>rw[hd] at h;cases h
 | cons t r =>
  rw[hd] at h;simp only[List.map_cons,List.cons.injEq] at h;refine⟨t,?_,h.1⟩;have:=List.getElem?_drop (xs:=T) (i:=i) (j:=0);rw[hd] at this;simpa using this.symm
theorem Tl.len{i:Nat}{a:List Tk}{x:Tk}{b:List Tk}(h:Tl T i (a++x::b)):i+a.length<T.length:=by
 have:=congrArg List.length h;simp at this;omega
theorem Zd(p:PS)(a b:Nat):zO (zO p a) b=zO p (a+b):=by simp[zO,Nat.add_assoc]
theorem X2(p:PS)(a:Nat):(zO p a).pos=p.pos+a:=rfl
theorem X4{t x:Tk}(h:z0 t=x):t.kind=x.kind∧t.text=x.text∧t.num=x.num:=by subst h;exact⟨rfl,rfl,rfl⟩
theorem XO{t x:Tk}(h:z0 t=x)(s:Tx):isT t s=isT x s:=by subst h;rfl
theorem We{t x:Tk}(h:z0 t=x):qx t=qx x:=by subst h;rfl
section
variable {p:PS} {x:Tk} {R:List Tk}
theorem qj(he:p.e=0)(h:Tl T p.pos (x::R)):∃ t,zE T p=some t∧z0 t=x:=by
 obtain⟨t,h1,h2⟩:=h.get;exact⟨t,by unfold zE;rw[if_pos he,h1],h2⟩
theorem ZZ(he:p.e=0)(h:Tl T p.pos (x::R))(hx:x.kind≠0):∃ t,ZG T p=some (t,zO p 1)∧z0 t=x:=by
 obtain⟨t,h1,h2⟩:=qj he h;refine⟨t,?_,h2⟩;unfold ZG;rw[h1,xmS,if_pos ⟨he,by rw[(X4 h2).1];exact hx⟩];rfl
theorem Ja(he:p.e=0)(h:Tl T p.pos (x::R))(s:Tx):Ye T s p=some (isT x s):=by
 obtain⟨t,h1,h2⟩:=qj he h;unfold Ye;rw[h1,xmS,XO h2]
theorem JR(he:p.e=0)(h:Tl T p.pos (x::R)){s:Tx}(hx:isT x s=true):Xc T s p=some (true,zO p 1):=by
 obtain⟨t,h1,_⟩:=ZZ he h (HX hx);unfold Xc;rw[Ja he h,xbS,if_pos hx,h1];rfl
theorem JT(he:p.e=0)(h:Tl T p.pos (x::R)){s:Tx}(hx:isT x s=false):Xc T s p=some (false,p):=by
 unfold Xc;rw[Ja he h,xbS,hx];rfl
theorem Zq(he:p.e=0)(h:Tl T p.pos (x::R)){s:Tx}(hx:isT x s=true):qp T s p=some (zO p 1):=by
 unfold qp;rw[JR he h hx];rfl
theorem YZ(he:p.e=0)(h:Tl T p.pos (x::R))(hx:x.kind≠0):∃ t,Qn T x.kind p=some (t,zO p 1)∧z0 t=x:=by
 obtain⟨t,h1,h2⟩:=qj he h;obtain⟨t',h3,h4⟩:=ZZ he h hx;refine⟨t',?_,h4⟩;unfold Qn;rw[h1,xbS,if_neg (by rw[(X4 h2).1];simp),xbS,h3]
theorem Ws{n m:Int}(h:n<m):ZE T n m p=some p:=by
 unfold ZE;rw[if_neg (by omega)]
theorem Jd{e:PM Nd}{n:Nd}{k:Nat}(he:p.e=0)(hd:p.deep<40)(h:e { p with deep:=p.deep+1 }=some (n,zO { p with deep:=p.deep+1 } k)):Ys T e p=some (n,zO p k):=by
 unfold Ys;rw[if_neg (by omega),xbS,if_neg (by simp[he]),h,xbS];show (if p.deep+1=0∨1000<p.deep+1 then none else some (n,{ zO { p with deep:=p.deep+1 } k with deep:=p.deep+1-1 }))=_;rw[if_neg (by omega)];rfl
theorem Ko{e:PM Nd}{n:Nd}{k:Nat}(he:p.e=0)(hd:p.deep<40)(h:e { p with deep:=p.deep+1,flat:=false }=some (n,zO { p with deep:=p.deep+1,flat:=false } k)):Xe T e p=some (n,zO p k):=by
 unfold Xe;rw[Jd (p:={ p with flat:=false }) he hd h];rfl
end
def Stop(m:Int)(f:Bool)(x:Tk):Prop:=(2≤m→qx x=false)∧(3≤m→¬ (x.kind=5∧x.text∈VJ))∧(4≤m→¬ (x.kind=5∧x.text∈signsP))∧(5≤m→isT x [61]=false∧isT x [60]=false)∧(6≤m→f=false→isT x [59]=false)
theorem Stop.le{m m':Int}{f:Bool}{x:Tk}(h:Stop m f x)(hm:m'≤m):Stop m' f x :=
 ⟨fun a=>h.1 (by omega),fun a=>h.2.1 (by omega),fun a=>h.2.2.1 (by omega),fun a=>h.2.2.2.1 (by omega),fun a=>h.2.2.2.2 (by omega)⟩
def UU(T:List Tk)(g:PM Nd)(m:Int)(r:Nat)(f:Bool)(l:List Tk)(n:Nd):Prop:=∀ p x R,p.e=0→p.flat=f→p.deep+r≤40→Tl T p.pos (l++x::R)→Stop m f x→∃ n',g p=some (n',zO p l.length)∧Z3 n' n=true
def SS(T:List Tk)(part:PM Nd)(signs:List Tx)(m:Int)(r:Nat)(f:Bool)(l:List Tk)(n:Nd):Prop:=∀ p x R,p.e=0→p.flat=f→p.deep+r≤40→Tl T p.pos (l++x::R)→Stop m f x →
 ∃ n' k,(∀ t,zE T (zO p l.length)=some t→J1 T part signs p=J0 T part signs k t n' (zO p l.length))∧T.length+2≤k+l.length∧Z3 n' n=true
def SC(T:List Tk)(e pt:PM Nd)(r:Nat)(f:Bool)(l:List Tk)(n:Nd):Prop:=∀ p x R,p.e=0→p.flat=f→p.deep+r≤40→Tl T p.pos (l++x::R) →
 ∃ n' k,JD T e pt p=YM T e pt k false n' (zO p l.length)∧T.length+2≤k+l.length∧Z3 n' n=true
def HK(t:Tk):Prop:=t.kind=6∧0<(qT t.text).1
def HF(t:Tk):Prop:=t.kind=6∧(t.text=[108,101,116]∨t.text=[102,117,110]∨t.text=[105,102])
theorem Ec{t:Tk}(h:qx t=true):¬ HK t∧¬ HF t:=by
 unfold qx isT at h;simp only[Bool.or_eq_true,Y4,beq_iff_eq] at h;refine⟨fun ⟨a,b⟩=>?_,fun ⟨a,b⟩=>?_⟩
 ·rcases h with ((((((h | h) | h) | h) | h) | h) | h) | h
  ·omega
  ·omega
  ·omega
  ·omega
  all_goals (rw[h.2] at b;revert b;decide)
 ·rcases h with ((((((h | h) | h) | h) | h) | h) | h) | h
  ·omega
  ·omega
  ·omega
  ·omega
  all_goals (rw[h.2] at b;revert b;decide)
theorem Aw{t:Tk}(h:HK t):¬ HF t:=by
 rintro⟨a,b | b | b⟩ <;> (have:=h.2;rw[b] at this;revert this;decide)
section
variable {e pt:PM Nd} {r:Nat} {f:Bool} {l:List Tk} {n:Nd}
theorem xy(h:UU T (ZV T e pt) 0 r f l n){t:Tk}{l':List Tk}(hl:l=t::l')(hb:qx t=true)(h4:t.kind≠4):SC T e pt r f l n:=by
 intro p x R h1 h2 h3 h5;obtain⟨n',g1,g2⟩:=h p x R h1 h2 h3 h5 ⟨fun a=>by omega,fun a=>by omega,fun a=>by omega,fun a=>by omega,fun a=>by omega⟩;obtain⟨t',k1,k2⟩:=qj h1 (x:=t) (R:=l'++x::R) (by rw[hl] at h5;exact h5);refine⟨n',T.length+2,?_,by omega,g2⟩;unfold JD;have nk:=(Ec hb).1;have e1:=X4 k2;rw[k1,xbS,if_neg (by rw[e1.1,e1.2.1];exact nk),g1,xbS];have e4:(t'.kind==4)=false:=by rw[e1.1];simp[h4]
 rw[e4]
theorem dU(h:UU T (ZV T e pt) 0 r f l n){t:Tk}{l':List Tk}(hl:l=t::l')(hb:qx t=true):UU T (JD T e pt) 2 r f l n:=by
 intro p x R h1 h2 h3 h5 hs;obtain⟨n',g1,g2⟩:=h p x R h1 h2 h3 h5 (hs.le (by omega));obtain⟨t',k1,k2⟩:=qj h1 (x:=t) (R:=l'++x::R) (by rw[hl] at h5;exact h5);obtain⟨t2,k3,k4⟩:=qj (p:=zO p l.length) h1 h5.skip;refine⟨n',?_,g2⟩;unfold JD;have nk:=(Ec hb).1;have e1:=X4 k2;rw[k1,xbS,if_neg (by rw[e1.1,e1.2.1];exact nk),g1,xbS];show YM T e pt (T.length+1+1) _ _ _=_;unfold YM;rw[k3,xbS,We k4,hs.1 (by omega)];rfl
theorem cq(h:SC T e pt r f l n):UU T (JD T e pt) 2 r f l n:=by
 intro p x R h1 h2 h3 h5 hs;obtain⟨n',k,g1,g2,g3⟩:=h p x R h1 h2 h3 h5;obtain⟨t2,k3,k4⟩:=qj (p:=zO p l.length) h1 h5.skip;have hlen:=h5.len;refine⟨n',?_,g3⟩;obtain⟨k,rfl⟩:∃ j,k=j+1:=⟨k-1,by omega⟩;rw[g1];unfold YM;rw[k3,xbS,We k4,hs.1 (by omega)];rfl
theorem Fr{part:PM Nd}{m:Int}(signs:List Tx)(h:UU T part m r f l n):SS T part signs m r f l n:=by
 intro p x R h1 h2 h3 h5 hs;obtain⟨n',g1,g2⟩:=h p x R h1 h2 h3 h5 hs;refine⟨n',T.length+2,fun t ht=>?_,by omega,g2⟩;unfold J1;rw[g1,xbS];show (zE T (zO p l.length)).bind _=_;rw[ht];rfl
theorem L9{part:PM Nd}{m m':Int}{signs:List Tx}(hm:m≤m')(hx:∀ x f,Stop m' f x→¬ (x.kind=5∧x.text∈signs))(h:SS T part signs m r f l n):UU T (J1 T part signs) m' r f l n:=by
 intro p x R h1 h2 h3 h5 hs;obtain⟨n',k,g1,g2,g3⟩:=h p x R h1 h2 h3 h5 (hs.le hm);obtain⟨t2,k3,k4⟩:=qj (p:=zO p l.length) h1 h5.skip;have hlen:=h5.len;refine⟨n',?_,g3⟩;obtain⟨k,rfl⟩:∃ j,k=j+1:=⟨k-1,by omega⟩;rw[g1 t2 k3];unfold J0;rw[if_neg (by have e1:=X4 k4;rw[e1.1,e1.2.1];exact hx x f hs)]
theorem fe(h:UU T (E4 T e pt) 4 r f l n):UU T (W7 T e pt) 5 r f l n:=by
 intro p x R h1 h2 h3 h5 hs;obtain⟨n',g1,g2⟩:=h p x R h1 h2 h3 h5 (hs.le (by omega));obtain⟨t2,k3,k4⟩:=qj (p:=zO p l.length) h1 h5.skip;refine⟨n',?_,g2⟩;unfold W7;rw[g1,xbS];show (zE T (zO p l.length)).bind _=_;rw[k3,xbS,if_neg];have hq:=hs.2.2.2.1 (by omega);rintro (z | z)
 ·rw[XO k4,hq.1] at z;cases z
 ·rw[XO k4,hq.2] at z;cases z
theorem fj(h:UU T (W7 T e pt) 5 r f l n){t:Tk}{l':List Tk}(hl:l=t::l')(hb:¬ HF t):UU T (J9 T e pt) 7 r f l n:=by
 intro p x R h1 h2 h3 h5 hs;obtain⟨n',g1,g2⟩:=h p x R h1 h2 h3 h5 (hs.le (by omega));obtain⟨t',k1,k2⟩:=qj h1 (x:=t) (R:=l'++x::R) (by rw[hl] at h5;exact h5);refine⟨n',?_,g2⟩;have e1:=X4 k2;unfold J9;rw[k1,xbS,if_neg (by rw[e1.1,e1.2.1];exact fun z=>hb ⟨z.1,.inl z.2⟩),if_neg (by rw[e1.1,e1.2.1];exact fun z=>hb ⟨z.1,.inr (.inl z.2)⟩),if_neg (by rw[e1.1,e1.2.1];exact fun z=>hb ⟨z.1,.inr (.inr z.2)⟩),g1,xbS];have hf:(zO p l.length).flat=f:=h2;cases hff:f with
 | true=>rw[hff] at hf;dsimp only;rw[if_pos hf];rfl
 | false =>
  rw[hff] at hf;dsimp only;rw[if_neg (by rw[hf];decide),JT (p:=zO p l.length) h1 h5.skip (hs.2.2.2.2 (by omega) hff)];rfl
end
structure Good (T:List Tk) (N r:Nat) (f:Bool) (b:Int) (l:List Tk) (n:Nd):Prop where
 hd:∃ t l',l=t::l'∧(b≤1→qx t=true)∧(b≤5→qx t=true∨HK t)∧t≠sg [41]∧(HF t∨HK t∨qx t=true)
 u0:b≤0→UU T (ZV T (Z7 T N) (Qj T (N+1))) 0 r f l n
 s1:b≤1→(∀ t l',l=t::l'→t.kind≠4)→SC T (Z7 T N) (Qj T (N+1)) r f l n
 u2:b≤2→UU T (JD T (Z7 T N) (Qj T (N+1))) 2 r f l n
 s3:b≤3→SS T (JD T (Z7 T N) (Qj T (N+1))) VJ 2 r f l n
 u3:b≤3→UU T (wR T (Z7 T N) (Qj T (N+1))) 3 r f l n
 s4:b≤4→SS T (wR T (Z7 T N) (Qj T (N+1))) signsP 3 r f l n
 u4:b≤4→UU T (E4 T (Z7 T N) (Qj T (N+1))) 4 r f l n
 u5:b≤5→UU T (W7 T (Z7 T N) (Qj T (N+1))) 5 r f l n
 u7:UU T (Z7 T (N+1)) 7 r f l n
section
variable {N r:Nat} {f:Bool} {b:Int} {l:List Tk} {n:Nd} {t:Tk} {l':List Tk}
theorem Good.of7(hl:l=t::l')(ht:HF t)(h:UU T (Z7 T (N+1)) 7 r f l n):Good T N r f 6 l n :=
 ⟨⟨t,l',hl,fun a=>by omega,fun a=>by omega,fun x=>(by rw[x] at ht;have:=ht.1;revert this;decide),.inl ht⟩,fun a=>by omega,fun a=>by omega,fun a=>by omega,fun a=>by omega,fun a=>by omega,fun a=>by omega,fun a=>by omega,fun a=>by omega,h⟩
theorem Good.seven(hl:l=t::l')(ht:qx t=true∨HK t)(hp:t≠sg [41])(h:UU T (Z7 T (N+1)) 7 r f l n):Good T N r f 7 l n :=
 ⟨⟨t,l',hl,fun a=>by omega,fun a=>by omega,hp,by rcases ht with h | h <;> simp[h]⟩,fun a=>by omega,fun a=>by omega,fun a=>by omega,fun a=>by omega,fun a=>by omega,fun a=>by omega,fun a=>by omega,fun a=>by omega,h⟩
theorem lp(ht:qx t=true∨HK t):¬ HF t:=by
 rcases ht with h | h
 ·exact (Ec h).2
 ·exact Aw h
theorem Fm(ht:qx t=true∨HK t):t≠sg [41]:=by
 rintro rfl;rcases ht with h | h
 ·revert h;decide
 ·have:=h.1;revert this;decide
theorem Good.of5(hl:l=t::l')(ht:qx t=true∨HK t)(h:UU T (W7 T (Z7 T N) (Qj T (N+1))) 5 r f l n):Good T N r f 5 l n :=
 ⟨⟨t,l',hl,fun a=>by omega,fun _=>ht,Fm ht,by rcases ht with h | h <;> simp[h]⟩,fun a=>by omega,fun a=>by omega,fun a=>by omega,fun a=>by omega,fun a=>by omega,fun a=>by omega,fun a=>by omega,fun _=>h,fj h hl (lp ht)⟩
theorem Good.of4(hl:l=t::l')(ht:qx t=true∨HK t)(h:SS T (wR T (Z7 T N) (Qj T (N+1))) signsP 3 r f l n):Good T N r f 4 l n:=by
 have h4:UU T (E4 T (Z7 T N) (Qj T (N+1))) 4 r f l n:=L9 (by omega) (fun x f hs=>hs.2.2.1 (by omega)) h;have g:=Good.of5 hl ht (fe h4);exact { g with hd:=⟨t,l',hl,fun a=>by omega,fun _=>ht,Fm ht,by rcases ht with h | h <;> simp[h]⟩,u0:=fun a=>by omega,s1:=fun a=>by omega,u2:=fun a=>by omega,s3:=fun a=>by omega,u3:=fun a=>by omega,s4:=fun _=>h,u4:=fun _=>h4,u5:=fun _=>g.u5 (by omega) }
theorem Good.of3(hl:l=t::l')(ht:qx t=true∨HK t)(h:SS T (JD T (Z7 T N) (Qj T (N+1))) VJ 2 r f l n):Good T N r f 3 l n:=by
 have h3:UU T (wR T (Z7 T N) (Qj T (N+1))) 3 r f l n:=L9 (by omega) (fun x f hs=>hs.2.1 (by omega)) h;have g:=Good.of4 hl ht (Fr signsP h3);exact { g with hd:=⟨t,l',hl,fun a=>by omega,fun _=>ht,Fm ht,by rcases ht with h | h <;> simp[h]⟩,u0:=fun a=>by omega,s1:=fun a=>by omega,u2:=fun a=>by omega,s3:=fun _=>h,u3:=fun _=>h3,s4:=fun _=>g.s4 (by omega),u4:=fun _=>g.u4 (by omega),u5:=fun _=>g.u5 (by omega) }
theorem Good.of2(hl:l=t::l')(ht:qx t=true∨HK t)(h:UU T (JD T (Z7 T N) (Qj T (N+1))) 2 r f l n):Good T N r f 2 l n:=by
 have g:=Good.of3 hl ht (Fr VJ h);exact { g with hd:=⟨t,l',hl,fun a=>by omega,fun _=>ht,Fm ht,by rcases ht with h | h <;> simp[h]⟩,u0:=fun a=>by omega,s1:=fun a=>by omega,u2:=fun _=>h,s3:=fun _=>g.s3 (by omega),u3:=fun _=>g.u3 (by omega),s4:=fun _=>g.s4 (by omega),u4:=fun _=>g.u4 (by omega),u5:=fun _=>g.u5 (by omega) }
theorem Good.of1(hl:l=t::l')(ht:qx t=true)(h:SC T (Z7 T N) (Qj T (N+1)) r f l n):Good T N r f 1 l n:=by
 have g:=Good.of2 hl (.inl ht) (cq h);exact { g with hd:=⟨t,l',hl,fun _=>ht,fun _ =>.inl ht,Fm (.inl ht),by simp[ht]⟩,u0:=fun a=>by omega,s1:=fun _ _=>h,u2:=fun _=>g.u2 (by omega),s3:=fun _=>g.s3 (by omega),u3:=fun _=>g.u3 (by omega),s4:=fun _=>g.s4 (by omega),u4:=fun _=>g.u4 (by omega),u5:=fun _=>g.u5 (by omega) }
theorem Good.of0(hl:l=t::l')(ht:qx t=true)(h:UU T (ZV T (Z7 T N) (Qj T (N+1))) 0 r f l n):Good T N r f 0 l n:=by
 have g:=Good.of2 hl (.inl ht) (dU h hl ht);exact { g with hd:=⟨t,l',hl,fun _=>ht,fun _ =>.inl ht,Fm (.inl ht),by simp[ht]⟩,u0:=fun _=>h,s1:=fun _ h4=>xy h hl ht (h4 t l' hl),u2:=fun _=>g.u2 (by omega),s3:=fun _=>g.s3 (by omega),u3:=fun _=>g.u3 (by omega),s4:=fun _=>g.s4 (by omega),u4:=fun _=>g.u4 (by omega),u5:=fun _=>g.u5 (by omega) }
theorem Good.le{b':Int}(h:Good T N r f b l n)(hb:b≤b'):Good T N r f b' l n:=by
 obtain⟨t,l',a1,a2,a3,a4,a5⟩:=h.hd;exact⟨⟨t,l',a1,fun a=>a2 (by omega),fun a=>a3 (by omega),a4,a5⟩,fun a=>h.u0 (by omega),fun a=>h.s1 (by omega),fun a=>h.u2 (by omega),fun a=>h.s3 (by omega),fun a=>h.u3 (by omega),fun a=>h.s4 (by omega),fun a=>h.u4 (by omega),fun a=>h.u5 (by omega),h.u7⟩
theorem Good.brackets{c:Nd}(h:Good T N r false b l c)(f:Bool):Good T (N+1) (r+1) f 0 (sg [40]::(l++[sg [41]])) c:=by
 refine .of0 rfl rfl ?_;intro p x R h1 h2 h3 h5 _;obtain⟨t0,l0,k0,_,_,k3,_⟩:=h.hd;have h6:Tl T (p.pos+1) (l++sg [41]::(x::R)):=by
  have:=h5.next;simpa using this
 have h7:Tl T (p.pos+1+l.length) (sg [41]::(x::R)):=h6.skip;obtain⟨t,g1,g2⟩:=qj h1 h5;obtain⟨t',g3,g4⟩:=ZZ h1 h5 (by decide);have hnot:isT t0 [41]=false:=by
  cases hz:isT t0 [41] with
  | false=>rfl
  | true =>
   obtain⟨_,_,_,hb⟩:True∧True∧True∧(HF t0∨HK t0∨qx t0=true):=⟨trivial,trivial,trivial,by assumption⟩;have hk:=uh hz;have htx:=ug hz;rcases hb with hb | hb | hb
   ·rw[HF,htx] at hb;have:=hb.2;revert this;decide
   ·rw[HK,htx] at hb;have:=hb.2;revert this;decide
   ·unfold qx isT at hb;rw[htx] at hb;simp only[Bool.or_eq_true,Y4,beq_iff_eq] at hb;rcases hb with ((((((hb | hb) | hb) | hb) | hb) | hb) | hb) | hb
    ·omega
    ·omega
    ·omega
    ·omega
    all_goals (have:=hb.2;revert this;decide)
 obtain⟨n',g5,g6⟩:=h.u7 { p with pos:=p.pos+1,deep:=p.deep+1,flat:=false } (sg [41]) (x::R) h1 rfl (by show p.deep+1+r≤40;omega) h6 (by unfold Stop;decide);refine⟨n',?_,g6⟩;have e1:∀ s,isT t s=isT (sg [40]) s:=fun s=>XO g2 s;unfold ZV;rw[g1,xbS,e1,e1,e1,e1,if_neg (by decide),if_neg (by decide),if_neg (by decide),if_pos (by decide),g3,xbS,JT (p:=zO p 1) (x:=t0) (R:=l0++sg [41]::(x::R)) h1 (by rw[k0] at h6;exact h6) hnot,xbS,if_neg (by simp),Ko (p:=zO p 1) (n:=n') (k:=l.length) h1 (by show p.deep<40;omega) g5,xbS,Zq (p:=zO (zO p 1) l.length) h1 h7 (by decide),xmS];simp only[Zd,xlC,xlA,xlN];congr 3;omega
end
end Go.AL
namespace Go.AL
variable {T:List Tk}
theorem Zu:∀ {a b:List Nd} {x y:Nd},Z3 x y=true→qX a b=true→qX (x::a) (y::b)=true:=by
 intro a b x y h g;simp only[qX,h,g,Bool.and_self]
theorem Ft:∀ {a b c d:List Nd},qX a b=true→qX c d=true→qX (a++c) (b++d)=true
 | [],[],_,_,_,h=>h
 | [],_::_,_,_,h,_=>by simp[qX] at h
 | _::_,[],_,_,h,_=>by simp[qX] at h
 | x::a,y::b,c,d,h,g=>by
  simp only[qX,Y4] at h;exact Zu h.1 (Ft h.2 g)
def B3(t:Tk):Bool:=isT t [95] || isT t [40] || t.kind==3 || t.kind==1 || t.kind==4
def UP(T:List Tk)(g:PM Nd)(r:Nat)(l:List Tk)(n:Nd)(stop:Tk→Prop):Prop:=∀ p x R,p.e=0→p.deep+r≤40→Tl T p.pos (l++x::R)→stop x→∃ n',g p=some (n',zO p l.length)∧Z3 n' n=true
structure GoodP (T:List Tk) (N r:Nat) (b:Int) (l:List Tk) (n:Nd):Prop where
 hd:∃ t l',l=t::l'∧B3 t=true
 p0:b≤0→UP T (QW T (Qj T N)) r l n (fun _=>True)
 p7:UP T (Qj T (N+1)) r l n (fun x=>B3 x=false)
theorem LA{p:PS}{x:Tk}{R:List Tk}(he:p.e=0)(h:Tl T p.pos (x::R)):Vx T p=some (B3 x):=by
 obtain⟨t,h1,h2⟩:=qj he h;unfold Vx;rw[h1,xmS];subst h2;rfl
theorem GoodP.of0{N r:Nat}{l:List Tk}{n:Nd}{t:Tk}{l':List Tk}(hl:l=t::l')(ht:B3 t=true)(h:UP T (QW T (Qj T N)) r l n (fun _=>True)):GoodP T N r 0 l n:=by
 refine⟨⟨t,l',hl,ht⟩,fun _=>h,?_⟩;intro p x R h1 h3 h5 hs;obtain⟨n',g1,g2⟩:=h p x R h1 h3 h5 trivial;obtain⟨t',k1,k2⟩:=qj h1 (x:=t) (R:=l'++x::R) (by rw[hl] at h5;exact h5);refine⟨n',?_,g2⟩;show HR T (Qj T N) p=_;unfold HR;rw[k1,xbS,g1,xbS];show JM T (Qj T N) (T.length+1+1) _ _ _=_;unfold JM;split
 ·rw[LA (p:=zO p l.length) h1 h5.skip,hs];rfl
 ·rfl
theorem GoodP.le{N r:Nat}{b b':Int}{l:List Tk}{n:Nd}(h:GoodP T N r b l n)(hb:b≤b'):GoodP T N r b' l n:=⟨h.hd,fun a=>h.p0 (by omega),h.p7⟩
theorem yW{kinds:List (Int×Int)}{p:PS}{x:Tk}{R:List Tk}{k:Int}(he:p.e=0)(h:Tl T p.pos (x::R))(hf:kinds.find? (fun q=>q.1==x.kind)=some (x.kind,k))(hx:x.kind≠0)(hk:k≠0):∃ a,XC T kinds p=some (.mk k x.text x.num a [] [],zO p 1):=by
 obtain⟨t,h1,h2⟩:=qj he h;obtain⟨t',h3,h4⟩:=ZZ he h hx;have e:=X4 h2;refine⟨t.pos,?_⟩;unfold XC;rw[h1,xbS,e.1,hf];dsimp only[Option.map_some,Option.getD_some];rw[if_neg hk,h3,xmS,e.2.1,e.2.2]
theorem Jq(k:Int)(t:Tx)(m a b:Int):Z3 (.mk k t m a [] []) (.mk k t m b [] [])=true:=Yu rfl rfl rfl rfl rfl
theorem WB{e:PM Nd}{r:Nat}{x:Tk}{k a:Int}(hx:x.kind=1∧k=1∨x.kind=3∧k=4∨x.kind=4∧k=5):UP T (QW T e) r [x] (.mk k x.text x.num a [] []) (fun _=>True):=by
 intro p y R h1 h3 h5 _;have h5:Tl T p.pos (x::y::R):=h5;obtain⟨t,a1,a2⟩:=qj h1 h5;have no:∀ s,isT x s=false:=kL (by omega) (by omega);obtain⟨a',b1⟩:=yW (kinds:=[(1,1),(3,4),(4,5)]) (k:=k) h1 h5 (by rcases hx with⟨h,rfl⟩ | ⟨h,rfl⟩ | ⟨h,rfl⟩ <;> rw[h] <;> rfl) (by omega) (by omega);refine⟨_,?_,Jq _ _ _ a' a⟩;unfold QW;rw[a1,xbS,JT h1 h5 (no _),xbS,if_neg (by simp),Ja h1 h5,no,xbS,if_neg (by decide),b1];rfl
theorem xU{e:PM Nd}{r:Nat}{a:Int}:UP T (QW T e) r [sg [95]] (.mk 24 [] 0 a [] []) (fun _=>True):=by
 intro p y R h1 h3 h5 _;have h5:Tl T p.pos (sg [95]::y::R):=h5;obtain⟨t,a1,a2⟩:=qj h1 h5;refine⟨_,?_,Jq 24 [] 0 t.pos a⟩;unfold QW;rw[a1,xbS,JR h1 h5 rfl,xbS,if_pos rfl];rfl
theorem GoodP.brackets{N r:Nat}{b:Int}{l:List Tk}{c:Nd}(h:GoodP T N r b l c):GoodP T (N+1) (r+1) 0 (sg [40]::(l++[sg [41]])) c:=by
 refine .of0 rfl rfl ?_;intro p x R h1 h3 h5 _;have h6:Tl T (p.pos+1) (l++sg [41]::(x::R)):=by
  have:=h5.next;simpa using this
 have h7:Tl T (p.pos+1+l.length) (sg [41]::(x::R)):=h6.skip;obtain⟨t,g1,g2⟩:=qj h1 h5;obtain⟨n',g5,g6⟩:=h.p7 { p with pos:=p.pos+1,deep:=p.deep+1 } (sg [41]) (x::R) h1 (by show p.deep+1+r≤40;omega) h6 (by decide);refine⟨n',?_,g6⟩;unfold QW;rw[g1,xbS,JT h1 h5 rfl,xbS,if_neg (by simp),Ja h1 h5,xbS,if_pos (show isT (sg [40]) [40]=true from rfl)];unfold Y0;rw[Zq h1 h5 rfl,xbS,Jd (p:=zO p 1) (n:=n') (k:=l.length) h1 (by show p.deep<40;omega) g5,xbS,Zq (p:=zO (zO p 1) l.length) h1 h7 rfl,xmS];simp only[Zd,xlC,xlA,xlN];congr 3;omega
theorem wO{N r:Nat}{X:Nd→Int→List Tk}{w:Int}{x:Tk}{R:List Tk}(hx:B3 x=false):∀ (ks:List Nd) (nd:Nd) (p:PS) (k:Nat),(∀ c∈ks,GoodP T N r 0 (QC X c 0 w) c)→nd.kids.length+ks.length≤4→T.length≤p.pos+k→p.e=0→p.deep+r≤40→Tl T p.pos (JI X w ks++x::R) →
  ∃ ks',JM T (Qj T N) k true nd p=some (nd.addKids ks',zO p (JI X w ks).length)∧qX ks' ks=true
 | [],nd,p,k,_,hl,hk,he,hd,h=>by
  have hlen:=h.len;obtain⟨k,rfl⟩:∃ j,k=j+1:=⟨k-1,by simp[JI] at hlen;omega⟩;refine⟨[],?_,rfl⟩;unfold JM;rw[if_pos rfl,LA he h,hx];cases nd;simp[Nd.addKids,JI,zO]
 | c::ks,nd,p,k,hg,hl,hk,he,hd,h=>by
  have hlen:=h.len;obtain⟨k,rfl⟩:∃ j,k=j+1:=⟨k-1,by omega⟩;have gc:=hg c List.mem_cons_self;obtain⟨t,l',e1,e2⟩:=gc.hd;have h':Tl T p.pos (QC X c 0 w++(JI X w ks++x::R)):=by simpa[JI] using h
  obtain⟨y,R',ey⟩:∃ y R',JI X w ks++x::R=y::R':=by
   cases hz:JI X w ks++x::R with
   | nil=>simp at hz
   | cons y R'=>exact⟨y,R',rfl⟩
  have h'':=h';rw[ey] at h'';obtain⟨c',g1,g2⟩:=gc.p0 (by omega) p y R' he hd h'' trivial;have hpos:1≤(QC X c 0 w).length:=by rw[e1];simp
  simp only[xlC] at hl;have hkl:(nd.addKid c').kids.length=nd.kids.length+1:=by cases nd;simp[Nd.addKid,Nd.kids]
  obtain⟨ks',g3,g4⟩:=wO hx ks (nd.addKid c') (zO p (QC X c 0 w).length) k (fun z hz=>hg z (List.mem_cons_of_mem _ hz)) (by omega) (by rw[X2];omega) he hd h'.skip;refine⟨c'::ks',?_,Zu g2 g4⟩;unfold JM;rw[if_pos rfl,LA he (x:=t) (R:=l'++(JI X w ks++x::R)) (by rw[e1] at h';exact h'),e2,xbS,if_pos rfl,Ws (by omega),xbS,g1,xbS,g3,Zd];cases nd;simp[Nd.addKid,Nd.addKids,JI]
theorem jM{N r:Nat}{f:Bool}{X:Nd→Int→List Tk}{w:Int}{x:Tk}{R:List Tk}(hx:qx x=false):∀ (ks:List Nd) (nd:Nd) (p:PS) (k:Nat),(∀ c∈ks,Good T N r f 0 (QC X c 0 w) c)→nd.kids.length+ks.length≤4→T.length≤p.pos+k→p.e=0→p.flat=f→p.deep+r≤40→Tl T p.pos (JI X w ks++x::R) →
  ∃ ks',YM T (Z7 T N) (Qj T (N+1)) k true nd p=some (nd.addKids ks',zO p (JI X w ks).length)∧qX ks' ks=true
 | [],nd,p,k,_,hl,hk,he,hf,hd,h=>by
  have hlen:=h.len;obtain⟨k,rfl⟩:∃ j,k=j+1:=⟨k-1,by simp[JI] at hlen;omega⟩;refine⟨[],?_,rfl⟩;obtain⟨t,h1,h2⟩:=qj he h;unfold YM;rw[h1,xbS,We h2,hx];cases nd;simp[Nd.addKids,JI,zO]
 | c::ks,nd,p,k,hg,hl,hk,he,hf,hd,h=>by
  have hlen:=h.len;obtain⟨k,rfl⟩:∃ j,k=j+1:=⟨k-1,by omega⟩;have gc:=hg c List.mem_cons_self;obtain⟨t,l',e1,e2,_⟩:=gc.hd;have h':Tl T p.pos (QC X c 0 w++(JI X w ks++x::R)):=by simpa[JI] using h
  obtain⟨y,R',ey⟩:∃ y R',JI X w ks++x::R=y::R':=by
   cases hz:JI X w ks++x::R with
   | nil=>simp at hz
   | cons y R'=>exact⟨y,R',rfl⟩
  have h'':=h';rw[ey] at h'';obtain⟨c',g1,g2⟩:=gc.u0 (by omega) p y R' he hf hd h'' ⟨fun a=>by omega,fun a=>by omega,fun a=>by omega,fun a=>by omega,fun a=>by omega⟩;have hpos:1≤(QC X c 0 w).length:=by rw[e1];simp
  simp only[xlC] at hl;have hkl:(nd.addKid c').kids.length=nd.kids.length+1:=by cases nd;simp[Nd.addKid,Nd.kids]
  obtain⟨t',k1,k2⟩:=qj he (x:=t) (R:=l'++(JI X w ks++x::R)) (by rw[e1] at h';exact h');obtain⟨ks',g3,g4⟩:=jM hx ks (nd.addKid c') (zO p (QC X c 0 w).length) k (fun z hz=>hg z (List.mem_cons_of_mem _ hz)) (by omega) (by rw[X2];omega) he hf hd h'.skip;refine⟨c'::ks',?_,Zu g2 g4⟩;unfold YM;rw[k1,xbS,We k2,e2 (by omega),if_pos rfl,if_pos rfl,Ws (by omega),xbS,g1,xbS,g3,Zd];cases nd;simp[Nd.addKid,Nd.addKids,JI]
theorem fy{N r:Nat}{t:Tx}{a:Int}{ks:List Nd}{X:Nd→Int→List Tk}{w:Int}(hl:ks.length≤4)(hk:∀ c∈ks,GoodP T N r 0 (QC X c 0 w) c):UP T (Qj T (N+1)) r (cn t::JI X w ks) (.mk 5 t 0 a [] ks) (fun x=>B3 x=false):=by
 intro p x R h1 h3 h5 hs;have h5:Tl T p.pos (cn t::(JI X w ks++x::R)):=h5;obtain⟨y,R',ey⟩:∃ y R',JI X w ks++x::R=y::R':=by
  cases hz:JI X w ks++x::R with
  | nil=>simp at hz
  | cons y R'=>exact⟨y,R',rfl⟩
 obtain⟨t',k1,k2⟩:=qj h1 h5;obtain⟨n',g1,g2⟩:=WB (T:=T) (e:=Qj T N) (r:=r) (x:=cn t) (k:=5) (a:=0) (.inr (.inr ⟨rfl,rfl⟩)) p y R' h1 h3 (by rw[ey] at h5;exact h5) trivial;have hn:n'.kids=[]:=by
  have:=BA g2;exact List.eq_nil_of_length_eq_zero this
 obtain⟨ks',g3,g4⟩:=wO hs ks n' (zO p 1) (T.length+2) hk (by rw[hn];simpa using hl) (by omega) h1 h3 h5.next;refine⟨n'.addKids ks',?_,?_⟩
 ·show HR T (Qj T N) p=_;unfold HR;rw[k1,xbS,g1,xbS];have e4:(t'.kind==4)=true:=by rw[(X4 k2).1];rfl
  rw[e4];show JM T (Qj T N) (T.length+2) true n' (zO p 1)=_;rw[g3,Zd];simp[Nat.add_comm]
 ·have q:=WO g2;cases n' with
  | mk k tx m ps ns kd =>
   simp only[Nd.kids] at hn;subst hn;exact Yu q.1 q.2.1 q.2.2.1 q.2.2.2.1 (by simpa[Nd.addKids,Nd.kids] using g4)
theorem oL{N r:Nat}{f:Bool}{t:Tx}{a:Int}{ks:List Nd}{X:Nd→Int→List Tk}{w:Int}(hl:ks.length≤4)(hk:∀ c∈ks,Good T N r f 0 (QC X c 0 w) c)(ha:∀ a,UU T (ZV T (Z7 T N) (Qj T (N+1))) 0 r f [cn t] (.mk 5 t 0 a [] [])):UU T (JD T (Z7 T N) (Qj T (N+1))) 2 r f (cn t::JI X w ks) (.mk 5 t 0 a [] ks):=by
 intro p x R h1 h2 h3 h5 hs;have h5:Tl T p.pos (cn t::(JI X w ks++x::R)):=h5;obtain⟨y,R',ey⟩:∃ y R',JI X w ks++x::R=y::R':=by
  cases hz:JI X w ks++x::R with
  | nil=>simp at hz
  | cons y R'=>exact⟨y,R',rfl⟩
 obtain⟨t',k1,k2⟩:=qj h1 h5;obtain⟨n',g1,g2⟩:=ha 0 p y R' h1 h2 h3 (by rw[ey] at h5;exact h5) ⟨fun a=>by omega,fun a=>by omega,fun a=>by omega,fun a=>by omega,fun a=>by omega⟩;have hn:n'.kids=[]:=by
  have:=BA g2;exact List.eq_nil_of_length_eq_zero this
 obtain⟨ks',g3,g4⟩:=jM (hs.1 (by omega)) ks n' (zO p 1) (T.length+2) hk (by rw[hn];simpa using hl) (by omega) h1 h2 h3 h5.next;refine⟨n'.addKids ks',?_,?_⟩
 ·unfold JD;have e:=X4 k2;have e4:(t'.kind==4)=true:=by rw[e.1];rfl
  rw[k1,xbS,if_neg (by rw[e.1];exact fun z=>absurd z.1 (by show ¬ ((4:Int)=6);decide)),g1,xbS,e4];show YM T _ _ (T.length+2) true n' (zO p 1)=_;rw[g3,Zd];simp[Nat.add_comm]
 ·have q:=WO g2;cases n' with
  | mk k tx m ps ns kd =>
   simp only[Nd.kids] at hn;subst hn;exact Yu q.1 q.2.1 q.2.2.1 q.2.2.2.1 (by simpa[Nd.addKids,Nd.kids] using g4)
theorem yY{f:Bool}{x:Tk}:Stop 0 f x:=⟨fun a=>by omega,fun a=>by omega,fun a=>by omega,fun a=>by omega,fun a=>by omega⟩
theorem KS{e pt:PM Nd}{r:Nat}{f:Bool}{x:Tk}{k a:Int}(hx:x.kind=1∧k=1∨x.kind=2∧k=2∨x.kind=3∧k=4∨x.kind=4∧k=5):UU T (ZV T e pt) 0 r f [x] (.mk k x.text x.num a [] []):=by
 intro p y R h1 h2 h3 h5 _;have h5:Tl T p.pos (x::y::R):=h5;obtain⟨t,a1,a2⟩:=qj h1 h5;have no:∀ s,isT t s=false:=fun s=>by rw[XO a2];exact kL (by omega) (by omega) s
 obtain⟨a',b1⟩:=yW (kinds:=[(1,1),(2,2),(3,4),(4,5)]) (k:=k) h1 h5 (by rcases hx with⟨h,rfl⟩ | ⟨h,rfl⟩ | ⟨h,rfl⟩ | ⟨h,rfl⟩ <;> rw[h] <;> rfl) (by omega) (by omega);refine⟨_,?_,Jq _ _ _ a' a⟩;unfold ZV;simp only[a1,xbS,no,Yd,if_false];rw[b1];rfl
theorem gF{e pt:PM Nd}{r:Nat}{f:Bool}{a:Int}:UU T (ZV T e pt) 0 r f [sg [40],sg [41]] (.mk 3 [] 0 a [] []):=by
 intro p y R h1 h2 h3 h5 _;have h5:Tl T p.pos (sg [40]::sg [41]::y::R):=h5;obtain⟨t,a1,a2⟩:=qj h1 h5;obtain⟨t',b1,b2⟩:=ZZ h1 h5 (by decide);refine⟨_,?_,Jq 3 [] 0 t.pos a⟩;unfold ZV;rw[a1,xbS,XO a2,XO a2,XO a2,XO a2,if_neg (by decide),if_neg (by decide),if_neg (by decide),if_pos (show isT (sg [40]) [40]=true from rfl),b1,xbS,JR (p:=zO p 1) h1 h5.next rfl,xbS,if_pos rfl];rfl
theorem kU{e pt:PM Nd}{r:Nat}{f:Bool}{a:Int}:UU T (ZV T e pt) 0 r f [ky [114,101,116,114,121]] (.mk 19 [] 0 a [] []):=by
 intro p y R h1 h2 h3 h5 _;have h5:Tl T p.pos (ky [114,101,116,114,121]::y::R):=h5;obtain⟨t,a1,a2⟩:=qj h1 h5;obtain⟨t',b1,b2⟩:=ZZ h1 h5 (by decide);refine⟨_,?_,Jq 19 [] 0 t.pos a⟩;unfold ZV;rw[a1,xbS,XO a2,XO a2,XO a2,if_neg (by decide),if_neg (by decide),if_pos (show isT (ky [114,101,116,114,121]) [114,101,116,114,121]=true from rfl),b1,xmS];rfl
end Go.AL
