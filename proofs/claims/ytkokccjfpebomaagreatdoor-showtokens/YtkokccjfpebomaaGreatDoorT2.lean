/- The tokens of a node's text; the text is their words, with a blank ahead of each. -/
import Derived.Test.YtkokccjfpebomaaGreatDoorT1
import Derived.Test.YtkokccjfpebomaaGreatDoorS7
import Derived.Test.YtkokccjfpebomaaGreatDoorN9
set_option linter.all false
namespace Go.AL
def sg(s:Tx):Tk:=⟨5,s,0,0⟩
def ky(s:Tx):Tk:=⟨6,s,0,0⟩
def nm(s:Tx):Tk:=⟨3,s,0,0⟩
def cn(s:Tx):Tk:=⟨4,s,0,0⟩
def Vt(t:Tk):Tx:=if t.kind=1 then Yh t.num else if t.kind=2 then Ym t.text else t.text
def jb(l:List Tk):Tx:=l.flatMap fun t=>32::Vt t
section
variable (X:Nd→Int→List Tk)
def QN(n:Nd)(m w:Int):List Tk:=if VH m n=true then sg [40]::(X n 7++[sg [41]]) else X n w
def J4(w:Int):List Nd→List Tk
 | []=>[]
 | k::r=>QN X k 0 w++J4 w r
def Fe:List Nd→List Tk
 | a::b::r=>sg [124]::(X a 7++sg [45,62]::(QN X b 7 7++Fe r))
 | _=>[]
def Fr(n:Nd)(w:Int):List Tk :=
 if qX n.kind≠[] then ky (qX n.kind)::J4 X w n.kids
 else if n.kind=1 then [⟨1,[],n.num,0⟩] else if n.kind=2 then [⟨2,n.text,0,0⟩] else if n.kind=3 then [sg [40],sg [41]]
 else if n.kind=4 then [nm n.text] else if n.kind=5 then cn n.text::J4 X w n.kids
 else if n.kind=24 then [sg [95]] else if n.kind=19 then [ky [114,101,116,114,121]]
 else if n.kind=6 then ky [102,117,110]::nm n.text::sg [45,62]::QN X (kid n 0) w w
 else if n.kind=7 then QN X (kid n 0) 1 w++QN X (kid n 1) 0 w
 else if n.kind=8 then ky [108,101,116]::nm n.text::sg [61]::(QN X (kid n 0) w w++ky [105,110]::QN X (kid n 1) w w)
 else if n.kind=9 then ky [108,101,116]::ky [114,101,99]::nm n.text::sg [61]::(QN X (kid n 0) w w++ky [105,110]::QN X (kid n 1) w w)
 else if n.kind=10 then ky [105,102]::(QN X (kid n 0) w w++ky [116,104,101,110]::(QN X (kid n 1) w w++ky [101,108,115,101]::QN X (kid n 2) w w))
 else if n.kind=11 then ky [109,97,116,99,104]::(QN X (kid n 0) 7 7++ky [119,105,116,104]::(Fe X n.kids.tail++[ky [101,110,100]]))
 else if n.kind=12 then ky [116,114,121]::(QN X (kid n 0) 7 7++ky [119,105,116,104]::nm n.text::sg [45,62]::(QN X (kid n 1) 7 7++[ky [101,110,100]]))
 else if n.kind=13 then QN X (kid n 0) (VN n.text) w++sg n.text::QN X (kid n 1) (Wv n.text) w
 else if n.kind=14 then QN X (kid n 0) 5 w++sg [59]::QN X (kid n 1) 7 7
 else []
end
def Q1:Nat→Nd→Int→List Tk
 | 0=>fun _ _=>[]
 | d+1=>Fr (Q1 d)
theorem Xq(a b:List Tk):jb (a++b)=jb a++jb b:=by simp[jb]
theorem qL(t:Tk)(b:List Tk):jb (t::b)=32::(Vt t++jb b):=by simp[jb]
theorem ZT:jb []=[]:=rfl
theorem JL(s:Tx):Vt (sg s)=s:=rfl
theorem Vu(s:Tx):Vt (ky s)=s:=rfl
theorem Wy(s:Tx):Vt (nm s)=s:=rfl
theorem rM(s:Tx):Vt (cn s)=s:=rfl
section
variable {T:Nd→Int→Tx} {X:Nd→Int→List Tk}
def CS(T:Nd→Int→Tx)(X:Nd→Int→List Tk)(c:Nd):Prop:=∀ w,32::T c w=jb (X c w)
theorem Vh{c:Nd}(h:CS T X c)(m w:Int):32::zj T c m w=jb (QN X c m w):=by
 unfold zj QN VH;by_cases hb:m<qZ c∨c.kind=5∧m=1
 ·rw[if_pos hb,if_pos (decide_eq_true hb)];simp only[qO,qL,Xq,ZT,JL,←h 7,xcA,xaA,xnA,xaN]
 ·rw[if_neg hb,if_neg (by simpa using hb)];exact h w
theorem gP(w:Int):∀ (l:List Nd) (s:Tx),(∀ c∈l,CS T X c)→X2 T w s l=s++jb (J4 X w l)
 | [],s,_=>by simp[X2,J4,ZT]
 | k::r,s,h=>by
  show X2 T w (qO [s,zj T k 0 w]) r=_;rw[gP w r _ fun c hc=>h c (List.mem_cons_of_mem _ hc)];simp only[J4,Xq,qO,←Vh (h k List.mem_cons_self),xaA,xcA]
theorem xv:∀ (l:List Nd) (s:Tx),(∀ c∈l,CS T X c)→Yr T s l=s++jb (Fe X l)
 | [],s,_=>by simp[Yr,Fe,ZT]
 | [a],s,_=>by simp[Yr,Fe,ZT]
 | a::b::r,s,h=>by
  show Yr T (s++qO [[32,124],T a 7,[45,62],zj T b 7 7]) r=_;rw[xv r _ fun c hc=>h c (List.mem_cons_of_mem _ (List.mem_cons_of_mem _ hc))];have ha:=h a List.mem_cons_self 7;have hb:=Vh (h b (List.mem_cons_of_mem _ List.mem_cons_self)) 7 7;simp only[Fe,Xq,qL,JL,qO,←ha,←hb,xaA,xcA,xnA]
theorem bB{pt f:Bool}{n:Nd}(hs:Shape pt f n)(h:∀ c∈n.kids,CS T X c)(w:Int):32::qC T n w=jb (Fr X n w):=by
 have kk:∀ (l:List Nd) (s:Tx),(∀ c∈l,CS T X c)→X2 T w s l=s++jb (J4 X w l):=gP w;have W:∀ c∈n.kids,∀ m w,32::zj T c m w=jb (QN X c m w):=fun c hc=>Vh (h c hc);cases hs with
 | int _ _ m a h'=>simp[qC,Fr,qg,qX,Nd.kind,Nd.kids,Nd.num,qL,ZT,Vt]
 | text _ t a h'=>simp[qC,Fr,qg,qX,Nd.kind,Nd.kids,Nd.text,qL,ZT,Vt]
 | unit _ a=>simp[qC,Fr,qg,qX,Nd.kind,Nd.kids,qL,ZT,Vt,sg]
 | retry _ a=>simp[qC,Fr,qg,qX,Nd.kind,Nd.kids,qL,ZT,Vt,ky]
 | any _ a=>simp[qC,Fr,qg,qX,Nd.kind,Nd.kids,qL,ZT,Vt,sg]
 | name _ _ t a h'=>simp[qC,Fr,qg,qX,Nd.kind,Nd.kids,Nd.text,qL,ZT,Vt,nm,X2]
 | con _ _ t a ks h' hl =>
  simp only[Nd.kids] at h;simp[qC,Fr,qg,qX,Nd.kind,Nd.kids,Nd.text,qL,ZT,rM,kk _ _ h]
 | fn _ t a k h' =>
  have w0:=W k (by simp[Nd.kids]);simp[qC,Fr,qg,qX,Nd.kind,Nd.kids,Nd.text,kid,qO,qL,Xq,ZT,Vu,Wy,JL,←w0]
 | call _ a k l =>
  have w0:=W k (by simp[Nd.kids]);have w1:=W l (by simp[Nd.kids]);simp[qC,Fr,qg,qX,Nd.kind,Nd.kids,Nd.text,kid,qO,qL,Xq,ZT,←w0,←w1]
 | lt _ t a k l h' =>
  have w0:=W k (by simp[Nd.kids]);have w1:=W l (by simp[Nd.kids]);simp[qC,Fr,qg,qX,Nd.kind,Nd.kids,Nd.text,kid,qO,Qm,qL,Xq,ZT,Vu,Wy,JL,←w0,←w1]
 | rc _ t a k l h' hk =>
  have w0:=W k (by simp[Nd.kids]);have w1:=W l (by simp[Nd.kids]);simp[qC,Fr,qg,qX,Nd.kind,Nd.kids,Nd.text,kid,qO,Qm,qL,Xq,ZT,Vu,Wy,JL,←w0,←w1]
 | iff _ a k l m =>
  have w0:=W k (by simp[Nd.kids]);have w1:=W l (by simp[Nd.kids]);have w2:=W m (by simp[Nd.kids]);simp[qC,Fr,qg,qX,Nd.kind,Nd.kids,Nd.text,kid,qO,qL,Xq,ZT,Vu,Wy,JL,←w0,←w1,←w2]
 | mtch _ a ks hl =>
  cases ks with
  | nil=>simp at hl
  | cons k ks =>
   have w0:=W k (by simp[Nd.kids]);have hr:=xv (T:=T) (X:=X) ks [] fun c hc=>h c (by simp[Nd.kids,hc]);simp[qC,Fr,qg,qX,Nd.kind,Nd.kids,Nd.text,kid,qO,qL,Xq,ZT,Vu,Wy,JL,←w0,hr]
 | tr _ t a k l h' =>
  have w0:=W k (by simp[Nd.kids]);have w1:=W l (by simp[Nd.kids]);simp[qC,Fr,qg,qX,Nd.kind,Nd.kids,Nd.text,kid,qO,Qm,qL,Xq,ZT,Vu,Wy,JL,←w0,←w1]
 | op _ t a k l h' =>
  have w0:=W k (by simp[Nd.kids]);have w1:=W l (by simp[Nd.kids]);simp[qC,Fr,qg,qX,Nd.kind,Nd.kids,Nd.text,kid,qO,fV,VN,Wv,qL,Xq,ZT,Vu,Wy,JL,←w0,←w1]
 | sq a k l =>
  have w0:=W k (by simp[Nd.kids]);have w1:=W l (by simp[Nd.kids]);simp[qC,Fr,qg,qX,Nd.kind,Nd.kids,Nd.text,kid,qO,qL,Xq,ZT,Vu,Wy,JL,←w0,←w1]
 | key1 _ kd a k h' =>
  rcases h' with rfl | rfl | rfl | rfl | rfl | rfl <;> simp[qC,Fr,qg,qX,Nd.kind,Nd.kids,qL,Vu,kk _ _ h] <;> exact kk _ _ h
 | key2 _ kd a k l h' =>
  rcases h' with rfl | rfl <;> simp[qC,Fr,qg,qX,Nd.kind,Nd.kids,qL,Vu,kk _ _ h] <;> exact kk _ _ h
end
theorem WX.all{pt r f n}(h:WX pt r f n):∀ c∈n.kids,∃ pt r f,WX pt r f c:=fun c hc=>by
 obtain⟨i,hi⟩:=List.getElem?_of_mem hc;obtain⟨_,⟨_,s,_,g⟩ | ⟨_,g⟩⟩:=h.kid hi
 ·exact⟨_,_,_,g⟩
 ·exact⟨_,_,_,g⟩
theorem D0:∀ (d:Nat) {pt:Bool} {r:Nat} {f:Bool} {n:Nd},WX pt r f n→Dep d n→CS (zo d) (Q1 d) n
 | 0,_,_,_,_,_,hd=>by cases hd
 | d+1,pt,r,f,n,h,hd=>fun w=>bB h.shape (fun c hc=>by
  obtain⟨_,_,_,g⟩:=h.all c hc;exact D0 d g (hd.kids c hc)) w
def KD(X:Nd→List Tk):List Nd→List Tk
 | []=>[]
 | k::r=>(if 0<k.kids.length then sg [40]::(X k++[sg [41]]) else X k)++KD X r
def Dr:Nat→Nd→List Tk
 | 0=>fun _=>[]
 | d+1=>fun n=>nm n.text::KD (Dr d) n.kids
def V4(d:Nat):Nat→List Nd→List Tk
 | _,[]=>[]
 | i,k::r=>(if i=0 then ky [111,102] else sg [44])::(Dr d k++V4 d (i+1) r)
def B7(d:Nat)(n:Nd):List Tk:=cn n.text::V4 d 0 n.kids
def Wq(d:Nat):Nat→List Nd→List Tk
 | _,[]=>[]
 | i,k::r=>(if 0<i then [sg [124]] else [])++(B7 d k++Wq d (i+1) r)
def um(d:Nat)(n:Nd):List Tk :=
 if n.kind=28 then ky [108,101,116]::nm n.text::sg [61]::QN (Q1 d) (kid n 0) 6 6
 else if n.kind=29 then ky [108,101,116]::ky [114,101,99]::nm n.text::sg [61]::QN (Q1 d) (kid n 0) 6 6
 else ky [116,121,112,101]::nm n.text::(n.names.map nm++sg [61]::Wq d 0 n.kids)
def Wu(d:Nat):List Nd→List Tk
 | []=>[]
 | k::r=>um d k++sg [59]::Wu d r
def oi(d:Nat)(n:Nd):List Tk:=Wu d n.kids.dropLast++ky [100,111]::QN (Q1 d) (n.kids.getLastD Wf) 7 7
theorem bD{T:Nd→Tx}{X:Nd→List Tk}:∀ (l:List Nd) (s:Tx),(∀ c∈l,32::T c=jb (X c))→XQ T s l=s++jb (KD X l)
 | [],s,_=>by simp[XQ,KD,ZT]
 | k::r,s,h=>by
  have hk:=h k List.mem_cons_self;show XQ T (if 0<k.kids.length then qO [s,[40],T k,[41]] else qO [s,T k]) r=_;rw[bD r _ fun c hc=>h c (List.mem_cons_of_mem _ hc)];rw[show KD X (k::r)=(if 0<k.kids.length then sg [40]::(X k++[sg [41]]) else X k)++KD X r from rfl];split <;> simp[qO,Xq,qL,ZT,JL,←hk]
theorem sa:∀ (d:Nat) {n:Nd},Dep d n→32::qr d n=jb (Dr d n)
 | 0,_,h=>by cases h
 | d+1,n,h=>by
  show 32::XQ (qr d) n.text n.kids=_;rw[bD n.kids n.text fun c hc=>sa d (h.kids c hc)];simp[Dr,qL,Wy]
theorem gC(d:Nat):∀ (l:List Nd) (i:Nat) (s:Tx),(∀ c∈l,Dep d c)→Wj (qr d) i s l=s++jb (V4 d i l)
 | [],i,s,_=>by simp[Wj,V4,ZT]
 | k::r,i,s,h=>by
  show Wj (qr d) (i+1) (qO [s,if i=0 then [111,102] else [44],qr d k]) r=_;rw[gC d r _ _ fun c hc=>h c (List.mem_cons_of_mem _ hc)];have hk:=sa d (h k List.mem_cons_self);rw[show V4 d i (k::r)=(if i=0 then ky [111,102] else sg [44])::(Dr d k++V4 d (i+1) r) from rfl];split <;> simp[qO,Xq,qL,ZT,JL,Vu,←hk]
theorem xR(d:Nat):∀ (l:List Nd) (i:Nat) (s:Tx),(∀ c∈l,Dep (d+1) c)→YQ d i s l=s++jb (Wq d i l)
 | [],i,s,_=>by simp[YQ,Wq,ZT]
 | k::r,i,s,h=>by
  show YQ d (i+1) (qO [if 0<i then qO [s,[124]] else s,K5 d k]) r=_;rw[xR d r _ _ fun c hc=>h c (List.mem_cons_of_mem _ hc)];rw[show Wq d i (k::r)=(if 0<i then [sg [124]] else [])++(B7 d k++Wq d (i+1) r) from rfl];unfold B7 K5;rw[gC d k.kids 0 k.text (h k List.mem_cons_self).kids];split <;> simp[qO,Xq,qL,ZT,JL,rM]
theorem nB:∀ (l:List Tx) (r:Tx),32::qO (l++[r])=(l++[r]).flatMap fun s=>32::s
 | [],r=>by simp[qO]
 | [a],r=>by simp[qO]
 | a::b::l,r=>by
  have:=nB (b::l) r;simp only[xcA,qO,List.flatMap_cons] at this ⊢;rw[this]
theorem ar{d r:Nat}{n:Nd}(h:WD r n)(hd:Dep (d+1) n):32::Z7 d n=jb (um d n):=by
 cases h with
 | val t a v h hv =>
  obtain⟨_,hv⟩:=hv;have hx:∃ pt r f,WX pt r f v:=by
   obtain⟨_,s,_,g⟩ | ⟨_,g⟩:=hv
   ·exact⟨_,_,_,g⟩
   ·exact⟨_,_,_,g⟩
  obtain⟨_,_,_,hx⟩:=hx;have w0:=Vh (D0 d hx (hd.kids v (by simp[Nd.kids]))) 6 6;simp[Z7,um,qg,Nd.kind,Nd.kids,Nd.text,Qm,kid,qO,qL,Vu,Wy,JL,←w0]
 | rc t a v h hv hk =>
  obtain⟨_,hv⟩:=hv;have hx:∃ pt r f,WX pt r f v:=by
   obtain⟨_,s,_,g⟩ | ⟨_,g⟩:=hv
   ·exact⟨_,_,_,g⟩
   ·exact⟨_,_,_,g⟩
  obtain⟨_,_,_,hx⟩:=hx;have w0:=Vh (D0 d hx (hd.kids v (by simp[Nd.kids]))) 6 6;simp[Z7,um,qg,Nd.kind,Nd.kids,Nd.text,Qm,kid,qO,qL,Vu,Wy,JL,←w0]
 | ty t a ns ks h hn hns hl hks =>
  have e:Z7 d (.mk 25 t 0 a ns ks)=YQ d 0 (qO (([[116,121,112,101],t]++ns)++[[61]])) ks:=by simp[Z7,Nd.kind,Nd.text,Nd.names,Nd.kids]
  have hj:jb (ns.map nm)=ns.flatMap fun s=>32::s:=by simp[jb,List.flatMap_map,Wy]
  rw[e,xR d ks 0 _ (fun c hc=>(hd.kids c hc).mono (Nat.le_succ d)),←xcA,nB];simp[um,Nd.kind,Nd.text,Nd.names,Nd.kids,qL,Xq,Vu,Wy,JL,hj]
theorem wN{d r:Nat}:∀ (l:List Nd) (s:Tx) (L:List Tk),(∀ c∈l,WD r c∧Dep (d+1) c)→32::s=jb L++[32]→32::XI d s l=jb (L++Wu d l)++[32]
 | [],s,L,_,h=>by simp[XI,Wu,h]
 | k::r,s,L,h,hs=>by
  show 32::XI d (s++qO [Z7 d k,[59,32]]) r=_;obtain⟨h1,h2⟩:=h k List.mem_cons_self;have hk:=ar h1 h2;rw[wN r _ (L++(um d k++[sg [59]])) (fun c hc=>h c (List.mem_cons_of_mem _ hc)) ?_]
  ·simp[Wu]
  ·rw[←xcA,hs,Xq,Xq,←hk];simp[qO,qL,ZT,JL]
theorem WS.x{r:Nat}{s:Slot}{c:Nd}(h:WS r s c):∃ pt r f,WX pt r f c:=by
 obtain⟨_,⟨_,s,_,g⟩ | ⟨_,g⟩⟩:=h
 ·exact⟨_,_,_,g⟩
 ·exact⟨_,_,_,g⟩
theorem tL{d:Nat}{n:Nd}(h:WP n)(hd:Dep (d+2) n):32::qR (d+1) n=jb (oi (d+1) n):=by
 obtain⟨a,ds,e,rfl,h1,h2,h3⟩:=h;obtain⟨_,_,_,hx⟩:=h3.x;have hde:Dep (d+1) e:=hd.kids e (by simp[Nd.kids]);have w:=Vh (D0 (d+1) hx hde) 7 7;have hds:=wN (r:=40) (d:=d+1) ds [] [] (fun c hc=>⟨h2 c hc,(hd.kids c (by simp[Nd.kids,hc])).mono (Nat.le_succ _)⟩) rfl;unfold qR oi;simp only[Nd.kids,List.dropLast_concat,List.getLastD_concat];rw[←xcA,hds,Xq,Xq,qL,Vu,←w];simp[qO,ZT]
end Go.AL
namespace Go.AL
def WG(t:Tk):Prop:=t.pos=0∧((t.kind=1∧t.text=[]∧0≤t.num∧t.num≤4611686018427387903)∨(t.num=0∧((t.kind=2∧t.text.length≤60)∨(t.kind=3∧J2 t.text)∨(t.kind=4∧m6 t.text)∨(t.kind=5∧(t.text=[45,62]∨∃ c∈signsL,t.text=[c]))∨(t.kind=6∧t.text∈keysL))))
def Pz(z:Tx):Prop:=z=[]∨∃ y,z=32::y
theorem BK{p:UInt8→Bool}(h32:p 32=false){z:Tx}(hz:Pz z):∀ w:Tx,(∀ d∈w,p d=true)→zY p (w++z)=w.length
 | [],_=>by
  rcases hz with rfl | ⟨y,rfl⟩
  ·rfl
  ·show zY p (32::y)=0;rw[zY];simp[h32]
 | c::w,h=>by
  rw[xcA,zY,if_pos (h c List.mem_cons_self),BK h32 hz w fun d hd=>h d (List.mem_cons_of_mem _ hd)];rfl
theorem vK(w z:Tx):(w++z).take w.length=w:=by simp
theorem vl(w:Tx)(x:UInt8):Z5 (w++[x])=10*Z5 w+(x.toNat-48):=by simp[Z5]
theorem tq(n:Nat):qb (UInt8.ofNat (48+n % 10))=true∧(UInt8.ofNat (48+n % 10)).toNat-48=n % 10:=by
 have h:n % 10<10:=Nat.mod_lt _ (by decide);generalize n % 10=m at h;match m,h with
 | 0,_ | 1,_ | 2,_ | 3,_ | 4,_ | 5,_ | 6,_ | 7,_ | 8,_ | 9,_=>exact⟨by decide,by decide⟩
 | m+10,h=>omega
theorem Lk:∀ (k n:Nat) (acc:Tx),n<10 ^ (k+1)→∃ ds,KC (k+1) (n:Int) acc=ds++acc∧ds≠[]∧(∀ d∈ds,qb d=true)∧Z5 ds=n
 | k,n,acc,h=>by
  have e1:(Int.tmod (n:Int) 10).natAbs=n % 10:=by
   rw[show Int.tmod (n:Int) 10=((n % 10:Nat):Int) from rfl];exact Int.natAbs_natCast _
  have e2:Int.tdiv (n:Int) 10=((n / 10:Nat):Int):=rfl;obtain⟨b1,b2⟩:=tq n;rw[KC];simp only[e1,e2];by_cases hz:n / 10=0
  ·rw[if_pos (by rw[hz];rfl)];refine⟨[UInt8.ofNat (48+n % 10)],rfl,by simp,fun d hd=>by rw[List.mem_singleton.1 hd];exact b1,?_⟩;have:=vl [] (UInt8.ofNat (48+n % 10));rw[xnA] at this;rw[this,b2];simp[Z5];omega
  ·rw[if_neg (by omega)];cases k with
   | zero=>simp at h;omega
   | succ k =>
    obtain⟨ds,h1,h2,h3,h4⟩:=Lk k (n / 10) (UInt8.ofNat (48+n % 10)::acc) (by rw[Nat.pow_succ] at h;omega);refine⟨ds++[UInt8.ofNat (48+n % 10)],by rw[h1];simp,by simp,fun d hd=>?_,by rw[vl,h4,b2];omega⟩;rcases List.mem_append.1 hd with hd | hd
    ·exact h3 d hd
    ·rw[List.mem_singleton.1 hd];exact b1
theorem G1{m:Int}(h:0≤m∧m≤4611686018427387903):Yh m≠[]∧(∀ d∈Yh m,qb d=true)∧(Z5 (Yh m):Int)=m:=by
 have e:Z9 m=m:=by unfold Z9;simp only[Int.bmod_def];split <;> omega
 obtain⟨n,rfl⟩:∃ n:Nat,m=n:=⟨m.toNat,by omega⟩;obtain⟨ds,h1,h2,h3,h4⟩:=Lk 19 n [] (by have:=h.2;omega);have hs:Yh (n:Int)=ds:=by
  unfold Yh;rw[e,if_neg (by omega),h1];simp
 rw[hs];exact⟨h2,h3,by rw[h4]⟩
theorem lR:∀ n,n<256→YY (YX (UInt8.ofNat n >>> 4))=some (n / 16)∧YY (YX (UInt8.ofNat n &&& 15))=some (n % 16):=by decide +kernel
theorem bf(c:UInt8):YY (YX (c >>> 4))=some (c.toNat / 16)∧YY (YX (c &&& 15))=some (c.toNat % 16)∧UInt8.ofNat (16*(c.toNat / 16)+c.toNat % 16)=c:=by
 have h:=lR c.toNat c.toNat_lt;rw[UInt8.ofNat_toNat] at h;exact⟨h.1,h.2,by rw[Nat.div_add_mod];exact UInt8.ofNat_toNat⟩
theorem WH(z:Tx):∀ (s b:Tx) (m k:Nat),(s.flatMap qE).length<m→(b++s).length≤60→Yb m (s.flatMap qE++34::z) b k = .ok (b++s,k+(s.flatMap qE).length+1)
 | [],b,m,k,hm,hl=>by
  obtain⟨m,rfl⟩:∃ j,m=j+1:=⟨m-1,by omega⟩;simp only[List.flatMap_nil,xnA,xaN,xlN] at hl ⊢;rw[Go.Proofs.unq_step,if_neg (by decide),if_pos rfl,if_neg (by omega)]
 | c::s,b,m,k,hm,hl=>by
  obtain⟨m,rfl⟩:∃ j,m=j+1:=⟨m-1,by omega⟩;rw[List.flatMap_cons,xlA] at hm;have hb:(b++[c]++s).length≤60:=by simpa using hl
  rw[List.flatMap_cons,xaA,xlA];have fin:∀ {k':Nat} {j:Nat},k'=k+j→(.ok (b++[c]++s,k'+(s.flatMap qE).length+1):Except Int (Tx×Nat)) = .ok (b++c::s,k+(j+(s.flatMap qE).length)+1):=by
   intro k' j e;rw[e];simp;omega
  by_cases hp:YK c=true
  ·rw[show qE c=[c] by unfold qE;rw[if_pos hp]] at hm ⊢;have hp':=hp;unfold YK at hp';simp only[XT,decide_eq_true_eq,bne_iff_ne,ne_eq] at hp';have h10:c≠10:=fun x=>by rw[x] at hp';exact absurd hp'.1.1.1 (by decide)
   rw[List.singleton_append,Go.Proofs.unq_step,if_neg h10,if_neg hp'.1.2,if_neg hp'.2,if_pos hp];rw[WH z s (b++[c]) m (k+1) (by simp only[xlC,xlN] at hm;omega) hb];exact fin rfl
  ·by_cases h10:c=10
   ·subst h10;rw[show qE 10=[92,110] from rfl] at hm ⊢;show Yb (m+1) (92::110::_) b k=_;rw[Go.Proofs.unq_step,if_neg (by decide),if_neg (by decide),if_pos rfl];have he:∀ r:Tx,Js (110::r) = .ok (10,1):=fun r=>rfl;rw[he];show Yb m (s.flatMap qE++34::z) _ _=_;rw[WH z s (b++[10]) m (k+1+1) (by simp only[xlC,xlN] at hm;omega) hb];exact fin (by simp)
   ·by_cases h34:c=34∨c=92
    ·rw[show qE c=[92,c] by unfold qE;rw[if_neg hp,if_neg h10,if_pos h34]] at hm ⊢;show Yb (m+1) (92::c::_) b k=_;rw[Go.Proofs.unq_step,if_neg (by decide),if_neg (by decide),if_pos rfl];have he:∀ r:Tx,Js (c::r) = .ok (c,1):=fun r=>by rcases h34 with rfl | rfl <;> rfl
     rw[he];show Yb m (s.flatMap qE++34::z) _ _=_;rw[WH z s (b++[c]) m (k+1+1) (by simp only[xlC,xlN] at hm;omega) hb];exact fin (by simp)
    ·rw[show qE c=[92,120,YX (c >>> 4),YX (c &&& 15)] by unfold qE;rw[if_neg hp,if_neg h10,if_neg h34]] at hm ⊢;obtain⟨x1,x2,x3⟩:=bf c;show Yb (m+1) (92::120::YX (c >>> 4)::YX (c &&& 15)::_) b k=_;rw[Go.Proofs.unq_step,if_neg (by decide),if_neg (by decide),if_pos rfl];have he:∀ r:Tx,Js (120::YX (c >>> 4)::YX (c &&& 15)::r) = .ok (c,3):=fun r=>by
      unfold Js;simp only[x1,x2,x3];rfl
     rw[he];show Yb m (s.flatMap qE++34::z) _ _=_;rw[WH z s (b++[c]) m (k+1+3) (by simp only[xlC,xlN] at hm;omega) hb];exact fin (by simp)
theorem yD(s:Tx):(Ym s).length=(s.flatMap qE).length+2:=by simp[Ym]
theorem JK{c:UInt8}(h:Zb c=true∨qS c=true):qb c=false∧c≠34∧c≠32∧c≠9∧c≠10∧c≠35∧(Zb c || qS c)=true∧zL c=true∧(Zb c=true→qS c=false):=by
 have all:∀ n,n<256→(Zb (UInt8.ofNat n)=true∨qS (UInt8.ofNat n)=true)→qb (UInt8.ofNat n)=false∧UInt8.ofNat n≠34∧UInt8.ofNat n≠32∧UInt8.ofNat n≠9∧UInt8.ofNat n≠10∧UInt8.ofNat n≠35∧(Zb (UInt8.ofNat n) || qS (UInt8.ofNat n))=true∧zL (UInt8.ofNat n)=true∧(Zb (UInt8.ofNat n)=true→qS (UInt8.ofNat n)=false):=by decide +kernel
 have:=all c.toNat c.toNat_lt;rw[UInt8.ofNat_toNat] at this;exact this h
theorem DL{c:UInt8}(h:qb c=true):c≠32∧c≠9∧c≠10∧c≠35:=by
 have all:∀ n,n<256→qb (UInt8.ofNat n)=true→UInt8.ofNat n≠32∧UInt8.ofNat n≠9∧UInt8.ofNat n≠10∧UInt8.ofNat n≠35:=by decide +kernel
 have:=all c.toNat c.toNat_lt;rw[UInt8.ofNat_toNat] at this;exact this h
theorem Gn:∀ c∈signsL,qb c=false∧c≠34∧c≠32∧c≠9∧c≠10∧c≠35∧(Zb c || qS c)=false:=by decide
theorem FV:∀ s∈keysL,∃ c r,s=c::r∧Zb c=true∧(∀ d∈r,zL d=true)∧s.length≤16:=by
 have h:(keysL.all fun s=>match s with
  | []=>false
  | c::r=>Zb c&&r.all zL&&decide (s.length≤16))=true:=by decide +kernel
 intro s hs;have:=List.all_eq_true.1 h s hs;cases s with
 | nil=>cases this
 | cons c r =>
  simp only[XT,List.all_eq_true,decide_eq_true_eq] at this;exact⟨c,r,rfl,this.1.1,this.1.2,this.2⟩
def nq(w z:Tx)(t:Tk)(p:Int):Prop:=∃ c r,w++z=c::r∧c≠32∧c≠9∧c≠10∧c≠35∧XO (c::r) p = .ok (t,w.length)
theorem EO{c:UInt8}{r z:Tx}(hz:Pz z)(hc:Zb c=true∨qS c=true)(hr:∀ d∈r,zL d=true)(hl:(c::r).length≤16)(p:Int) :
  nq (c::r) z ⟨if qS c then 4 else if (c::r)∈keysL then 6 else 3,c::r,0,p⟩ p:=by
 obtain⟨f1,f2,f3,f4,f5,f6,f7,f8,_⟩:=JK hc;have hs:zY zL (c::(r++z))=(c::r).length:=by
  rw[←xcA];refine BK (by decide) hz _ fun d hd=>?_;rcases List.mem_cons.1 hd with rfl | hd
  ·exact f8
  ·exact hr d hd
 refine⟨c,r++z,rfl,f3,f4,f5,f6,?_⟩;unfold XO;dsimp only;rw[if_neg (by rw[f1];decide),if_neg f2,if_pos f7,hs,if_neg (by omega),←xcA,vK]
theorem pk{t:Tk}(h:WG t){z:Tx}(hz:Pz z)(p:Int):nq (Vt t) z (ms t p) p:=by
 obtain⟨kind,text,num,pos⟩:=t;obtain⟨rfl,h⟩:=h;simp only at h;rcases h with⟨rfl,rfl,h⟩ | ⟨rfl,⟨rfl,h⟩ | ⟨rfl,h⟩ | ⟨rfl,h⟩ | ⟨rfl,h⟩ | ⟨rfl,h⟩⟩
 ·obtain⟨h1,h2,h3⟩:=G1 h;show nq (Yh num) z ⟨1,[],num,p⟩ p;have hs:=BK (p:=qb) (by decide) hz (Yh num) h2;cases hw:Yh num with
  | nil=>exact absurd hw h1
  | cons c r =>
   rw[hw] at h2 h3 hs;have hc:=h2 c List.mem_cons_self;obtain⟨f1,f2,f3,f4⟩:=DL hc;refine⟨c,r++z,rfl,f1,f2,f3,f4,?_⟩;rw[xcA] at hs;unfold XO;dsimp only;rw[if_pos hc,hs,←xcA,vK,if_neg (by omega),h3]
 ·show nq (Ym text) z ⟨2,text,0,p⟩ p;refine⟨34,text.flatMap qE++[34]++z,by simp[Ym],by decide,by decide,by decide,by decide,?_⟩;unfold XO;dsimp only;rw[if_neg (by decide),if_pos rfl];have hu:Wc (34::(text.flatMap qE++[34]++z)) = .ok (text,(Ym text).length):=by
   unfold Wc;dsimp only;rw[if_pos rfl,xaA,List.singleton_append,WH z text [] _ 1 (by simp;omega) (by simpa using h),yD,xnA];congr 2;omega
  rw[hu]
 ·obtain⟨c,r,rfl,h1,h2,h3,h4⟩:=h;have:=EO hz (.inl h1) h2 h3 p;rw[if_neg (by rw[(JK (.inl h1)).2.2.2.2.2.2.2.2 h1];decide),if_neg h4] at this;exact this
 ·obtain⟨c,r,rfl,h1,h2,h3⟩:=h;have:=EO hz (.inr h1) h2 h3 p;rw[if_pos h1] at this;exact this
 ·show nq text z ⟨5,text,0,p⟩ p;rcases h with rfl | ⟨c,hc,rfl⟩
  ·exact⟨45,62::z,rfl,by decide,by decide,by decide,by decide,rfl⟩
  ·obtain⟨f1,f2,f3,f4,f5,f6,f7⟩:=Gn c hc;refine⟨c,z,rfl,f3,f4,f5,f6,?_⟩;have hh:¬ (z.head?=some 62∧c=45):=fun x=>by
    rcases hz with rfl | ⟨y,rfl⟩
    ·simp at x
    ·simp at x
   unfold XO;dsimp only;rw[if_neg (by rw[f1];decide),if_neg f2,if_neg (by rw[f7];decide),if_pos hc,if_neg hh];rfl
 ·obtain⟨c,r,e,h1,h2,h3⟩:=FV text h;subst e;have:=EO hz (.inl h1) h2 h3 p;rw[if_neg (by rw[(JK (.inl h1)).2.2.2.2.2.2.2.2 h1];decide),if_pos h] at this;exact this
def KZ:List Tk→Nat→List Tk
 | [],k=>[⟨0,[],0,(k:Int)⟩]
 | t::r,k=>ms t ((k+1:Nat):Int)::KZ r (k+1+(Vt t).length)
theorem dP(l:List Tk):Pz (jb l):=by
 cases l with
 | nil=>exact .inl rfl
 | cons t r=>exact .inr ⟨_,qL t r⟩
theorem vM:∀ (l:List Tk),(∀ t∈l,WG t)→∀ k,Lx (jb l) k (KZ l k)
 | [],_,k =>.nil (s:=[]) (k:=k) rfl
 | t::r,h,k=>by
  obtain⟨c,r',e,f1,f2,f3,f4,ht⟩:=pk (h t List.mem_cons_self) (dP r) ((k+1:Nat):Int);have hsk:qo false (jb (t::r))=1:=by
   rw[qL,e,iJ,if_pos (.inl rfl),iJ,if_neg (by simp[f1,f2,f3]),if_neg f4]
  have hd:(jb (t::r)).drop (qo false (jb (t::r)))=c::r':=by rw[hsk,qL,e];rfl
  have hdr:(c::r').drop (Vt t).length=jb r:=by rw[←e];simp
  refine .cons hd (by rw[hsk];exact ht) ?_;rw[hsk,hdr];exact vM r (fun t ht=>h t (List.mem_cons_of_mem _ ht)) _
theorem fM{t:Tk}{r:List Tk}(h:∀ x∈t::r,WG x):Lx (Vt t++jb r) 0 (ms t 0::KZ r (Vt t).length):=by
 obtain⟨c,r',e,f1,f2,f3,f4,ht⟩:=pk (h t List.mem_cons_self) (dP r) 0;have hsk:qo false (Vt t++jb r)=0:=by rw[e,iJ,if_neg (by simp[f1,f2,f3]),if_neg f4]
 have hdr:(c::r').drop (Vt t).length=jb r:=by rw[←e];simp
 refine .cons (by rw[hsk];exact e) (by rw[hsk];exact ht) ?_;rw[hsk,hdr,Nat.add_zero,Nat.zero_add];exact vM r (fun t ht=>h t (List.mem_cons_of_mem _ ht)) _
theorem jW:∀ (m:Nat) (r b:Tx) (k:Nat) (x:Tx) (n:Nat),Yb m r b k = .ok (x,n)→x.length≤60
 | 0,r,b,k,x,n,h=>by cases h
 | m+1,[],b,k,x,n,h=>by cases h
 | m+1,c::r,b,k,x,n,h=>by
  rw[Go.Proofs.unq_step] at h;split at h
  ·cases h
  split at h
  ·split at h
   ·cases h
   ·cases h;omega
  split at h
  ·cases he:Js r with
   | error e=>rw[he] at h;cases h
   | ok y=>rw[he] at h;exact jW m _ _ _ _ _ h
  split at h
  ·exact jW m _ _ _ _ _ h
  ·cases h
theorem Ez{p:UInt8→Bool}:∀ (s:Tx),∀ d∈s.take (zY p s),p d=true
 | [],d,h=>by simp at h
 | c::s,d,h=>by
  rw[zY] at h;split at h
  ·rename_i hc;rw[List.take_succ_cons] at h;rcases List.mem_cons.1 h with rfl | h
   ·exact hc
   ·exact Ez s d h
  ·simp at h
theorem dl{s:Tx}{p:Int}{t:Tk}{n:Nat}(h:XO s p = .ok (t,n)):TG t:=by
 unfold XO at h;split at h
 ·cases h
 rename_i c r;split at h
 ·split at h
  ·cases h
  ·cases h;refine⟨fun _=>⟨rfl,by show (0:Int)≤((Z5 _:Nat):Int);omega,by show ((Z5 _:Nat):Int)≤_;omega⟩,fun x=>by simp at x,fun x=>by simp at x,fun x=>by simp at x,fun x=>by simp at x⟩
 rename_i hd;split at h
 ·rename_i hq34;cases hu:Wc (c::r) with
  | error e=>rw[hu] at h;cases h
  | ok y =>
   obtain⟨x,m⟩:=y;rw[hu] at h;cases h;refine⟨fun x=>by simp at x,fun _=>⟨?_,rfl⟩,fun x=>by simp at x,fun x=>by simp at x,fun x=>by simp at x⟩;unfold Wc at hu;dsimp only at hu;rw[if_pos hq34] at hu;exact jW _ _ _ _ _ _ hu
 split at h
 ·rename_i hs;split at h
  ·cases h
  ·rename_i hl;have hc:Zb c=true∨qS c=true:=by simpa using hs
   have hf:=JK hc;have htk:(c::r).take (zY zL (c::r))=c::r.take (zY zL r):=by rw[zY,if_pos hf.2.2.2.2.2.2.2.1,List.take_succ_cons]
   have hlen:(c::r.take (zY zL r)).length≤16:=by
    rw[←htk,List.length_take];omega
   rw[htk] at h;cases h;cases hlg:qS c with
   | true =>
    simp only[if_true];refine⟨fun x=>by simp at x,fun x=>by simp at x,fun x=>by simp at x,fun _=>⟨⟨c,_,rfl,hlg,Ez r,hlen⟩,rfl⟩,fun x=>by simp at x⟩
   | false =>
    have hsm:Zb c=true:=by
     rcases hc with h | h
     ·exact h
     ·rw[hlg] at h;cases h
    simp only[XU,if_false];by_cases hk:c::r.take (zY zL r)∈keysL
    ·rw[if_pos hk];refine⟨fun x=>by simp at x,fun x=>by simp at x,fun x=>by simp at x,fun x=>by simp at x,fun x=>by simp at x⟩
    ·rw[if_neg hk];refine⟨fun x=>by simp at x,fun x=>by simp at x,fun _=>⟨⟨c,_,rfl,hsm,Ez r,hlen,hk⟩,rfl⟩,fun x=>by simp at x,fun x=>by simp at x⟩
 split at h
 ·rename_i hsg;split at h
  ·cases h;refine⟨fun x=>by simp at x,fun x=>by simp at x,fun x=>by simp at x,fun x=>by simp at x,fun _ =>.inl rfl⟩
  ·cases h;refine⟨fun x=>by simp at x,fun x=>by simp at x,fun x=>by simp at x,fun x=>by simp at x,fun _ =>.inr ⟨c,hsg,rfl⟩⟩
 ·cases h
theorem eY{s:Tx}{k:Nat}{T:List Tk}(h:Lx s k T):∀ t∈T,TG t:=by
 induction h with
 | nil hd=>intro t ht;rw[List.mem_singleton.1 ht];simp[TG]
 | cons hd ht _ ih =>
  intro t h;rcases List.mem_cons.1 h with rfl | h
  ·exact dl ht
  ·exact ih t h
theorem J'{s:Tx}{n:Nd}{a:Int}(h:qp s=some (n,a,0)):WP n:=by
 unfold qp at h;cases hl:X8 s with
 | error x =>
  obtain⟨b,f⟩:=x;rw[hl] at h;simp only[xsJ,xpJ] at h;exact absurd h.2.2 (Wa hl)
 | ok T=>rw[hl] at h;exact xp (eY (Uo hl).1) h
end Go.AL
