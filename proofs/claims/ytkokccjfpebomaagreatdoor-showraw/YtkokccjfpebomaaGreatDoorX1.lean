/- What the law needs beyond what its seat shares. -/
import Derived.Test.YtkokccjfpebomaaGreatDoorS6
import Derived.Test.YtkokccjfpebomaaGreatDoorD1
set_option linter.all false
set_option maxHeartbeats 4000000
set_option maxRecDepth 8000
namespace Go.AL
variable {P:Program}
end Go.AL
namespace Go.AL
variable {P:Program}
end Go.AL
namespace Go.AL
open Go Go.RowKit
variable {P:Program}
def E':Option TypeDesc→Bool
 | some (.struct _)=>true
 | some (.array _ _)=>true
 | _=>false
def YL(P:Program)(e:TypeId)(cs:List SV):SV:=if E' (P.underlying e) then .agg cs else cs.getD 0 .any
def rd(P:Program)(w:World):Nat→TypeId→List Value→List SV
 | 0,_,cs=>cs.map fun _ =>.any
 | n+1,t,cs=>match P.underlying t with
  | some (.slice e)=>match cs with
   | [.slice (some a) len cap]=>[.slice .imm (P.cellsOf e) ((List.range len).map fun i=>YL P e (rd P w n e (((w.cells? 0 (a.add (i*P.cellsOf e)) (P.cellsOf e))).getD [])))]
   | _=>[.slice .imm (P.cellsOf e) []]
  | some (.struct fs)=>fs.toList.flatMap fun f=>rd P w n f.type ((cs.drop f.offset).take (P.cellsOf f.type))
  | some .bool=>cs.map .sc
  | some (.int _)=>cs.map .sc
  | some .string=>cs.map .sc
  | _=>cs.map fun _ =>.any
def rj(w:World)(xs:List SV)(cs:List Value):Prop:=xs.length=cs.length∧∀ j,j<xs.length→Rep [] (UE w) w (xs.getD j .any) (cs.getD j default)
theorem D7{w:World}(f:Value→SV)(hf:∀ v,Rep [] (UE w) w (f v) v)(cs:List Value):rj w (cs.map f) cs:=by
 refine⟨by simp,fun j hj=>?_⟩;simp only[xlM] at hj;simp only[xgE,List.getElem?_map,List.getElem?_eq_getElem hj,xmS,Option.getD_some];exact hf _
theorem xi{w:World}{a b:List SV}{c d:List Value}(h:rj w a c)(k:rj w b d):rj w (a++b) (c++d):=by
 refine⟨by simp[h.1,k.1],fun j hj=>?_⟩;by_cases e:j<a.length
 ·have:=h.2 j e;simp only[xgE] at this ⊢;rw[List.getElem?_append_left e,List.getElem?_append_left (by rw[←h.1];exact e)];exact this
 ·have:=k.2 (j-a.length) (by simp at hj;omega);simp only[xgE] at this ⊢;rw[List.getElem?_append_right (by omega),List.getElem?_append_right (by rw[←h.1];omega),←h.1];exact this
theorem GR{w:World}{a:Addr}{n:Nat}{cs:List Value}(h:w.cells? 0 a n=some cs):cs.length=n∧∀ i,i<n→w.cell? (a.add i)=cs[i]?:=by
 unfold World.cells? at h;rw[if_pos (Nat.zero_le _)] at h;refine⟨by simpa using mapM_some_length h,fun i hi=>mapM_some_get h i i (by simp[hi])⟩
theorem Lu{w:World}{a:Addr}{v:Value}(h:w.cell? a=some v):a.spot=none∧a.block<w.heap.size:=by
 unfold World.cell? at h;split at h
 ·rename_i hb;refine⟨?_,?_⟩
  ·cases hs:a.spot with
   | none=>rfl
   | some s=>simp[hs] at h
  ·rcases Nat.lt_or_ge a.block w.heap.size with g | g
   ·exact g
   ·rw[Array.getElem?_eq_none g] at hb;cases hb
 ·cases h
theorem ak(a:Addr)(i j:Nat)(h:a.spot=none):(a.add i).add j=⟨a.block,a.off+i+j,none⟩:=by
 obtain⟨b,o,s⟩:=a;simp only at h;subst h;unfold Addr.add;by_cases hi:i=0 <;> by_cases hj:j=0 <;> simp[hi,hj]
theorem kS{a:Addr}{i:Nat}:(a.add i).spot=none→i=0→a.spot=none:=by
 intro h e;subst e;simpa[Addr.add] using h
theorem fL(w:World){b:Nat}(o:Nat)(h:b<w.heap.size):((UE w).lock b).has o:=by
 simp only[UE,if_pos h];trivial
section
variable {H:Type} {enc:TypeId×Value→H} {w:World} {T:TypeId→Prop}
theorem Cj(K:Kids P T)(hz:∀ t e,T t→P.underlying t=some (.slice e)→0<P.cellsOf e)(hagg:∀ e,T e→E' (P.underlying e)=false→P.cellsOf e=1) :
  ∀ (n:Nat) (t:TypeId) (cs:List Value) (x:DataW H×List MemPlace),T t→DataW.trod enc P w 0 (fun _=>true) true n t cs=some x→rj w (rd P w n t cs) cs:=by
 intro n;induction n with
 | zero=>intro t cs x _ h;simp[DataW.trod] at h
 | succ n ih =>
  intro t cs x hT h;unfold rd;split
  ·rename_i e ht;rcases DataW.trod_slice ht h with⟨rfl,_⟩ | ⟨a,len,cap,elems,rest,m,hm,rfl,_,_,hl,hc,hel,hat,_,_⟩
   ·refine⟨rfl,fun j hj=>?_⟩;obtain rfl:j=0:=by simp at hj;omega
    exact .nil _ _ trivial
   ·obtain rfl:n=m:=by omega
    have hTe:=K.slice hT ht;have hpos:=hz t e hT ht;refine⟨rfl,fun j hj=>?_⟩;obtain rfl:j=0:=by simp at hj;omega
    have key:∀ i,i<len→∃ cs,w.cells? 0 (a.add (i*P.cellsOf e)) (P.cellsOf e)=some cs∧rj w (rd P w n e cs) cs:=by
     intro i hi;have h1:=hat i hi;have h2:∃ y,elems[i]?=some y:=⟨elems[i]'(by omega),List.getElem?_eq_getElem _⟩;obtain⟨y,hy⟩:=h2;rw[hy] at h1;cases hcs:w.cells? 0 (a.add (i*P.cellsOf e)) (P.cellsOf e) with
     | none=>rw[hcs] at h1;cases h1
     | some cs =>
      rw[hcs] at h1;exact⟨cs,rfl,ih e cs y hTe h1⟩
    have hspot:0<len→a.spot=none:=by
     intro h0;obtain⟨cs,h1,_⟩:=key 0 h0;obtain⟨h2,h3⟩:=GR h1;have h4:=h3 0 hpos;rw[List.getElem?_eq_getElem (by omega)] at h4;have h5:=(Lu h4).1;have h6:=kS h5 rfl;exact kS h6 (by simp)
    have hlen:((List.range len).map fun i=>YL P e (rd P w n e (((w.cells? 0 (a.add (i*P.cellsOf e)) (P.cellsOf e))).getD []))).length=len:=by simp
    have hget:∀ i,i<len→((List.range len).map fun i=>YL P e (rd P w n e (((w.cells? 0 (a.add (i*P.cellsOf e)) (P.cellsOf e))).getD []))).getD i .any =
      YL P e (rd P w n e (((w.cells? 0 (a.add (i*P.cellsOf e)) (P.cellsOf e))).getD [])):=by
     intro i hi;simp[xgE,hi]
    have helem:∀ i cs,i<len→w.cells? 0 (a.add (i*P.cellsOf e)) (P.cellsOf e)=some cs→rj w (rd P w n e cs) cs→(YL P e (rd P w n e cs)).cells.length=P.cellsOf e ∧
      ∀ j,j<P.cellsOf e→Rep [] (UE w) w ((YL P e (rd P w n e cs)).cells.getD j .any) (cs.getD j default):=by
     intro i cs hi hcs hr;have hlc:=(GR hcs).1;unfold YL;cases hag:E' (P.underlying e) with
     | true=>exact⟨by simp only[SV.cells,if_true];rw[hr.1,hlc],fun j hj=>by simp only[SV.cells,if_true];exact hr.2 j (by rw[hr.1,hlc];exact hj)⟩
     | false =>
      have h1:=hagg e hTe hag;have h2:(rd P w n e cs).length=1:=by rw[hr.1,hlc,h1]
      have h3:=hr.2 0 (by omega);obtain⟨y,hy⟩:∃ y,rd P w n e cs=[y]:=by
       match hh:rd P w n e cs,h2 with
       | [y],_=>exact⟨y,rfl⟩
      rw[hy] at h3 ⊢;simp only[XU,if_false,xgZ] at h3 ⊢;have hna:y.cells=[y]:=by
       cases y <;> first | rfl | skip
       rename_i l;exfalso;have:∀ (m:Nat) (t:TypeId) (cs:List Value),¬ (SV.agg l∈rd P w m t cs):=by
        intro m;induction m with
        | zero=>intro t cs hm;simp[rd] at hm
        | succ m ihm =>
         intro t cs hm;unfold rd at hm;split at hm
         ·split at hm <;> simp at hm
         ·simp only[List.mem_flatMap] at hm;obtain⟨f,_,hf⟩:=hm;exact ihm _ _ hf
         all_goals simp at hm
       exact this n e cs (by rw[hy];simp)
      rw[hna,h1];refine⟨rfl,fun j hj=>?_⟩;obtain rfl:j=0:=by omega
      exact h3
    have hrep:Rep [] (UE w) w (.slice .imm (P.cellsOf e) ((List.range len).map fun i=>YL P e (rd P w n e (((w.cells? 0 (a.add (i*P.cellsOf e)) (P.cellsOf e))).getD []))))
      (.slice (some a) ((List.range len).map fun i=>YL P e (rd P w n e (((w.cells? 0 (a.add (i*P.cellsOf e)) (P.cellsOf e))).getD []))).length cap):=by
     refine Rep.slice .imm (P.cellsOf e) _ a cap (fun i j=>(((w.cells? 0 (a.add (i*P.cellsOf e)) (P.cellsOf e))).getD []).getD j default) (by rw[hlen];exact hl) (fun hne=>?_) (fun i hi=>?_) (fun i j hi hj=>?_) (fun i j hi hj=>?_) trivial
     ·refine hspot ?_;rcases Nat.eq_zero_or_pos len with h0 | h0
      ·subst h0;simp at hne
      ·exact h0
     ·rw[hlen] at hi;obtain⟨cs,h1,h2⟩:=key i hi;rw[hget i hi,h1];exact (helem i cs hi h1 h2).1
     ·rw[hlen] at hi;obtain⟨cs,h1,h2⟩:=key i hi;obtain⟨h3,h4⟩:=GR h1;have h5:=h4 j hj;rw[List.getElem?_eq_getElem (by omega)] at h5;rw[h1];simp only[Option.getD_some];rw[ak a _ _ (hspot (by omega))] at h5;refine⟨?_,?_⟩
      ·rw[h5,xgE,List.getElem?_eq_getElem (by omega)];rfl
      ·exact fL w _ (Lu h5).2
     ·rw[hlen] at hi;obtain⟨cs,h1,h2⟩:=key i hi;rw[hget i hi,h1];exact (helem i cs hi h1 h2).2 j hj
    rw[hlen] at hrep;exact hrep
  ·rename_i fs ht;obtain⟨xs,m,hm,rfl,hcl,hxl,hf⟩:=DataW.trod_struct ht h;obtain rfl:n=m:=by omega
   obtain⟨k1,k2,k3⟩:=K.struct hT ht;have key:∀ (l:List Field) (k:Nat) ,fs.toList.drop k=l→rj w (l.flatMap fun f=>rd P w n f.type ((cs.drop f.offset).take (P.cellsOf f.type))) (cs.drop (((fs.toList.take k).map fun f=>P.cellsOf f.type).sum)):=by
    intro l;induction l with
    | nil =>
     intro k hk;have:cs.drop (((fs.toList.take k).map fun f=>P.cellsOf f.type).sum)=[]:=by
      have hkl:fs.toList.length≤k:=by simpa using hk
      rw[List.take_of_length_le hkl,←k2,List.drop_eq_nil_of_le (by omega)]
     rw[this];exact⟨rfl,fun j hj=>by simp at hj⟩
    | cons f r ihl =>
     intro k hk;have hfk:fs.toList[k]?=some f:=by
      have:(fs.toList.drop k)[0]?=some f:=by rw[hk];rfl
      simpa using this
     have hoff:=k3 k f hfk;have hr:=ihl (k+1) (by rw[←List.drop_drop,hk];rfl);have htk:((fs.toList.take (k+1)).map fun f=>P.cellsOf f.type).sum=f.offset+P.cellsOf f.type:=by
      rw[List.take_add_one,hfk];simp[hoff]
     rw[htk] at hr;have hfx:=hf k f (by simpa using hfk);have hkx:k<xs.length:=by
      have:=(List.getElem?_eq_some_iff.1 hfk).1;rw[hxl];simpa using this
     rw[List.getElem?_eq_getElem hkx] at hfx;have h1:=ih f.type _ _ (k1 f (List.mem_of_getElem? hfk)) hfx;rw[←hoff,List.flatMap_cons];have hsplit:cs.drop f.offset=(cs.drop f.offset).take (P.cellsOf f.type)++cs.drop (f.offset+P.cellsOf f.type):=by
      rw[←List.drop_drop,List.take_append_drop]
     have h2:=xi h1 hr;rw[←hsplit] at h2;exact h2
   have:=key fs.toList 0 rfl;simpa using this
  ·exact D7 _ (fun v =>.sc v) _
  ·exact D7 _ (fun v =>.sc v) _
  ·exact D7 _ (fun v =>.sc v) _
  ·exact D7 _ (fun v =>.any v) _
theorem vr{n:Nat}{t e:TypeId}{cs:List Value}{x:DataW H×List MemPlace}(ht:P.underlying t=some (.slice e))(h:DataW.trod enc P w 0 (fun _=>true) true n t cs=some x) :
  ∃ (m:Nat) (css:List (List Value)),n=m+1∧rd P w n t cs=[.slice .imm (P.cellsOf e) (css.map fun c=>YL P e (rd P w m e c))]∧css.length≤maxLen∧∀ c∈css,∃ y,DataW.trod enc P w 0 (fun _=>true) true m e c=some y:=by
 rcases DataW.trod_slice ht h with⟨rfl,_⟩ | ⟨a,len,cap,elems,rest,m,rfl,rfl,_,_,hl,hc,hel,hat,_,_⟩
 ·cases n with
  | zero=>simp[DataW.trod] at h
  | succ n=>exact⟨n,[],rfl,by unfold rd;rw[ht];rfl,Nat.zero_le _,fun c hc=>by cases hc⟩
 ·refine⟨m,(List.range len).map fun i=>(w.cells? 0 (a.add (i*P.cellsOf e)) (P.cellsOf e)).getD [],rfl,?_,by simp;omega,fun c hc=>?_⟩
  ·conv=>lhs;rw[rd,ht]
   simp only[List.map_map];rfl
  ·obtain⟨i,hi,rfl⟩:=List.mem_map.1 hc;have hi:=List.mem_range.1 hi;have h1:=hat i hi;rw[List.getElem?_eq_getElem (by omega)] at h1;cases hcs:w.cells? 0 (a.add (i*P.cellsOf e)) (P.cellsOf e) with
   | none=>rw[hcs] at h1;cases h1
   | some cs=>rw[hcs] at h1;exact⟨_,h1⟩
theorem cF{n:Nat}{t:TypeId}{fs:Array Field}{cs:List Value}{x:DataW H×List MemPlace}(ht:P.underlying t=some (.struct fs))(h:DataW.trod enc P w 0 (fun _=>true) true n t cs=some x) :
  ∃ (m:Nat),n=m+1∧rd P w n t cs=(fs.toList.flatMap fun f=>rd P w m f.type ((cs.drop f.offset).take (P.cellsOf f.type))) ∧
   ∀ (i:Nat) (f:Field),fs[i]?=some f→∃ y,DataW.trod enc P w 0 (fun _=>true) true m f.type ((cs.drop f.offset).take (P.cellsOf f.type))=some y:=by
 obtain⟨xs,m,rfl,rfl,hcl,hxl,hf⟩:=DataW.trod_struct ht h;refine⟨m,rfl,by conv=>lhs;rw[rd,ht],fun i f hif=>?_⟩;have h1:=hf i f hif;have:i<xs.length:=by rw[hxl];exact (Array.getElem?_eq_some_iff.1 hif).1
 rw[List.getElem?_eq_getElem this] at h1;exact⟨_,h1⟩
theorem xl{n:Nat}{t:TypeId}{k:IntKind}{cs:List Value}{x:DataW H×List MemPlace}(ht:P.underlying t=some (.int k))(h:DataW.trod enc P w 0 (fun _=>true) true n t cs=some x) :
  ∃ i,rd P w n t cs=[.sc (.int k i)]∧(Lit.int k i).wf=true:=by
 obtain⟨i,rfl,_,hw⟩:=DataW.trod_int ht h;cases n with
 | zero=>simp[DataW.trod] at h
 | succ n=>exact⟨i,by unfold rd;rw[ht];rfl,hw⟩
theorem Lg{n:Nat}{t:TypeId}{cs:List Value}{x:DataW H×List MemPlace}(ht:P.underlying t=some .string)(h:DataW.trod enc P w 0 (fun _=>true) true n t cs=some x) :
  ∃ s:ByteArray,rd P w n t cs=[.sc (.string s)]∧s.size≤maxLen:=by
 obtain⟨s,rfl,_,hs⟩:=DataW.trod_string ht h;cases n with
 | zero=>simp[DataW.trod] at h
 | succ n=>exact⟨s,by unfold rd;rw[ht];rfl,hs⟩
theorem E2{α:Type}(enc':α→SV)(f:List Value→SV):∀ (css:List (List Value)),(∀ c∈css,∃ a,f c=enc' a)→∃ l:List α,css.map f=l.map enc'∧l.length=css.length
 | [],_=>⟨[],rfl,rfl⟩
 | c::r,h=>by
  obtain⟨a,ha⟩:=h c List.mem_cons_self;obtain⟨l,hl,hn⟩:=E2 enc' f r fun x hx=>h x (List.mem_cons_of_mem _ hx);exact⟨a::l,by rw[List.map_cons,List.map_cons,ha,hl],by simp[hn]⟩
end
end Go.AL
namespace Go.AL
variable {P:Program}
section
variable {M:List Nat} {ds:List (Option Tmp)} {ks:List Nat} {tbl:List (List Nat×St)} {i:Nat} {Ls:List (List (List Nat))} {o:Oper} {r:List Oper} {env:List SV} {K:List SV→Prop} {c c2 d d2:List Nat}
end
end Go.AL
namespace Go.AL
variable {P:Program}
section
variable {st s l:St} {id j n k:Nat} {X:Ob} {xs:List SV} {es:List (Value×SV)} {v v' z:Nat}
end
section
variable {M:List Nat} {t:TypeId} {x k m v s:Operand} {ρ:Operand→SV} {st:St} {env:List SV} {K:SV→St→Prop} {d:Option Tmp} {ty:TypeId} {pos:String} {aft:Array Edge} {gu:Option (Nat×Bool)} {id:Nat} {p:Prop} {ok:Bool}
end
end Go.AL
namespace Go.AL
open Go Go.RowKit
theorem ii{n:Int}(h:(Lit.int .i64 n).wf=true) : -9223372036854775808≤n∧n≤9223372036854775807:=by
 have h':(decide ((-9223372036854775808:Int)≤n)&&decide (n≤9223372036854775807))=true:=h;simpa using h'
end Go.AL
namespace Go.Proofs
open Go Go.AL Tryz
@[go_sem] theorem Tryz.abody13:zG prog 13=true:=by kernel_rfl
@[go_sem] theorem Tryz.abody15:zG prog 15=true:=by kernel_rfl
@[go_sem] theorem Tryz.abody16:zG prog 16=true:=by kernel_rfl
@[go_sem] theorem Tryz.abody31:zG prog 31=true:=by kernel_rfl
@[go_sem] theorem Tryz.abody32:zG prog 32=true:=by kernel_rfl
@[go_sem] theorem Tryz.abody50:zG prog 50=true:=by kernel_rfl
@[go_sem] theorem Tryz.abody51:zG prog 51=true:=by kernel_rfl
@[go_sem] theorem Tryz.abody52:zG prog 52=true:=by kernel_rfl
@[go_sem] theorem Tryz.abody81:zG prog 81=true:=by kernel_rfl
@[go_sem] theorem Tryz.abody82:zG prog 82=true:=by kernel_rfl
@[go_sem] theorem Tryz.abody83:zG prog 83=true:=by kernel_rfl
@[go_sem] theorem Tryz.abody109:zG prog 109=true:=by kernel_rfl
def dB(n:Nat)(a b:Nd):Prop:=∀ (K:SV→St→Prop) (st:St),K (.sc (.bool (Zg a b))) st→ACalls prog n [zq a,zq b,.sc (.bool false)] K st
theorem aP{a b:Nd}(ha:Few 100000 a)(hb:Few 100000 b)(q1:a.kind=b.kind)(q2:a.text=b.text)(q3:a.num=b.num)(q4:a.names.length=b.names.length)(q5:a.kids.length=b.kids.length)(ih:∀ x∈a.kids,∀ y∈b.kids,dB 13 x y){K:SV→St→Prop}{st:St}(hk:K (.sc (.bool (decide (a.names=b.names)&&qn a.kids b.kids))) st):ACalls prog 13 [zq a,zq b,.sc (.bool false)] K st:=by
 refine zd [] func13 rfl results13 ntmps13 ?_;have d1:(a.kind != b.kind)=false:=by simp[q1]
 have d2:(a.text==b.text)=true:=by simp[q2]
 have d3:(a.num != b.num)=false:=by simp[q3]
 have d4:((a.names.length:Int) != (b.names.length:Int))=false:=by simp[q4]
 have d5:((a.kids.length:Int) != (b.kids.length:Int))=false:=by simp[q5]
 cases ha with
 | mk _ _ la1 la2 =>
 cases hb with
 | mk _ _ lb1 lb2 =>
 simp only[go_sem,za,xlM,d1,d2,d3,d4,d5];refine zx [] (fun k env s=>∃ i:Nat,k+i=a.names.length∧a.names.take i=b.names.take i∧env=[.any,.any,.sc (.bool false),.ref (zn a),.ref (zn b),.any,.sc (.bool false),.sc (.int .i64 i),.any,.any,.any,.any,.any,.any,.any,.any,.any,.any,.any,.any,.any,.any,.any,.any,.any,.any,.any,.any,.any,.any,.any,.any,.any,.any,.any,.any,.any,.any,.any,.any,.any,.any,.any,.any,.any,.any,.any,.any,.any,.any,.any,.any,.any,.any,.any,.any,.any,.any,.any,.any,.any,.any,.any,.any,.any,.any,.any,.any,.any,.any,.any,.any,.any,.any,.any,.any,.any,.any,.any,.any,.any,.any,.any,.any,.any,.any,.any,.any,.any,.any,.any,.any,.any,.any,.any,.any]∧s=st) (n:=a.names.length) ?_ ⟨0,by omega,by simp,rfl,rfl⟩ ?_
 ·exact qu
 rintro k env s ⟨i,hi,htk,rfl,rfl⟩;by_cases hlt:i<a.names.length
 ·have c2:decide ((i:Int)<(a.names.length:Int))=true:=by simp;omega
  have w1:IntKind.i64.wrap ((i:Int)+1)=((i+1:Nat):Int):=by rw[IntWalk.i64_in _ (by omega)];rfl
  have hlt2:i<b.names.length:=by omega
  have g1:=Wr hlt;have g2:=Wr hlt2;by_cases he:a.names[i]=b.names[i]
  ·have c3:(a.names[i]==b.names[i])=true:=by simp[he]
   simp only[go_sem,c2,w1,zn,xlM];refine zC [] mixed rfl ?_;simp only[go_sem,xlM,g1,g2,c3,w1,zn];refine⟨by omega,by omega,k-1,_,by omega,?_,i+1,by omega,by rw[List.take_succ_eq_append_getElem hlt,List.take_succ_eq_append_getElem hlt2,htk,he],rfl⟩;exact qu
  ·have c3:(a.names[i]==b.names[i])=false:=by simp[he]
   have hd:decide (a.names=b.names)=false:=by
    simp only[decide_eq_false_iff_not];intro h;simp only[h,not_true_eq_false] at he
   rw[hd,Bool.false_and] at hk;simp only[go_sem,c2,w1,zn,xlM];refine zC [] mixed rfl ?_;simp only[go_sem,xlM,g1,g2,c3,w1,zn];exact⟨by omega,by omega,zD (zi _ _) hk⟩
 ·have c2:decide ((i:Int)<(a.names.length:Int))=false:=by simp;omega
  have hd:decide (a.names=b.names)=true:=by
   rw[List.take_of_length_le (by omega),List.take_of_length_le (by omega)] at htk;simp[htk]
  rw[hd,Bool.true_and] at hk;simp only[go_sem,c2,zn,xlM];refine zx [] (fun k env s'=>∃ (i:Nat) (ex:St),k+i=a.kids.length∧qn a.kids b.kids=qn (a.kids.drop i) (b.kids.drop i)∧env=[.any,.any,.sc (.bool false),.ref (zn a),.ref (zn b),.any,.sc (.bool false),.any,.sc (.int .i64 i),.any,.any,.any,.any,.any,.any,.any,.any,.any,.any,.any,.any,.any,.any,.any,.any,.any,.any,.any,.any,.any,.any,.any,.any,.any,.any,.any,.any,.any,.any,.any,.any,.any,.any,.any,.any,.any,.any,.any,.any,.any,.any,.any,.any,.any,.any,.any,.any,.any,.any,.any,.any,.any,.any,.any,.any,.any,.any,.any,.any,.any,.any,.any,.any,.any,.any,.any,.any,.any,.any,.any,.any,.any,.any,.any,.any,.any,.any,.any,.any,.any,.any,.any,.any,.any,.any,.any]∧s'=s++ex) (n:=a.kids.length) ?_ ⟨0,[],by omega,rfl,rfl,by simp⟩ ?_
  ·exact qu
  rintro k env s' ⟨i,ex,hi,hsm,rfl,rfl⟩;by_cases hlt:i<a.kids.length
  ·have c2:decide ((i:Int)<(a.kids.length:Int))=true:=by simp;omega
   have w1:IntKind.i64.wrap ((i:Int)+1)=((i+1:Nat):Int):=by rw[IntWalk.i64_in _ (by omega)];rfl
   have hlt2:i<b.kids.length:=by omega
   have g1:=q7 hlt;have g2:=q7 hlt2;have hih:=ih a.kids[i] (List.getElem_mem hlt) b.kids[i] (List.getElem_mem hlt2);rw[List.drop_eq_getElem_cons hlt,List.drop_eq_getElem_cons hlt2] at hsm;rw[show qn (a.kids[i]::a.kids.drop (i+1)) (b.kids[i]::b.kids.drop (i+1))=(Zg a.kids[i] b.kids[i]&&qn (a.kids.drop (i+1)) (b.kids.drop (i+1))) from rfl] at hsm;unfold dB at hih;cases hb:Zg a.kids[i] b.kids[i] with
   | true =>
    rw[hb] at hih hsm;rw[Bool.true_and] at hsm;simp only[go_sem,c2,w1,zn,xlM];refine zB [] [(0,[]),(0,[]),(0,[]),(0,[]),(0,[]),(0,[]),(0,[]),(0,[]),(0,[]),(0,[]),(0,[]),(3,[13]),(0,[])] mixed rfl ?_;simp only[go_sem,xlM,g1,g2];refine⟨by omega,by omega,?_⟩;refine⟨_,_,hih _ _ ⟨rfl,rfl⟩,?_⟩;simp only[go_sem,w1];refine⟨k-1,_,by omega,?_,i+1,_,by omega,hsm,rfl,rfl⟩;exact qu
   | false =>
    rw[hb] at hih hsm;rw[Bool.false_and] at hsm;rw[hsm] at hk;simp only[go_sem,c2,w1,zn,xlM];refine zB [] [(0,[]),(0,[]),(0,[]),(0,[]),(0,[]),(0,[]),(0,[]),(0,[]),(0,[]),(0,[]),(0,[]),(3,[13]),(0,[])] mixed rfl ?_;simp only[go_sem,xlM,g1,g2];refine⟨by omega,by omega,?_⟩;refine⟨_,_,hih _ _ ⟨rfl,rfl⟩,?_⟩;simp only[go_sem,w1];exact zF (zi _ _) hk
  ·have c2:decide ((i:Int)<(a.kids.length:Int))=false:=by simp;omega
   rw[List.drop_of_length_le (by omega),List.drop_of_length_le (by omega)] at hsm;rw[hsm] at hk;simp only[go_sem,c2,zn,xlM];exact zF (zi _ _) hk
theorem eQ{a b:Nd}(h:¬ (a.kind=b.kind∧a.text=b.text∧a.num=b.num∧a.names.length=b.names.length∧a.kids.length=b.kids.length)){K:SV→St→Prop}{st:St}(hk:K (.sc (.bool false)) st):ACalls prog 13 [zq a,zq b,.sc (.bool false)] K st:=by
 refine zd [] func13 rfl results13 ntmps13 ?_;by_cases q1:a.kind=b.kind
 rotate_left
 ·have d1:(a.kind != b.kind)=true:=by simp[q1]
  simp only[go_sem,za,xlM,d1];exact zD (zi _ _) hk
 have d1:(a.kind != b.kind)=false:=by simp[q1]
 by_cases q2:a.text=b.text
 rotate_left
 ·have d2:(a.text==b.text)=false:=by simp[q2]
  simp only[go_sem,za,xlM,d1,d2];exact zD (zi _ _) hk
 have d2:(a.text==b.text)=true:=by simp[q2]
 by_cases q3:a.num=b.num
 rotate_left
 ·have d3:(a.num != b.num)=true:=by simp[q3]
  simp only[go_sem,za,xlM,d1,d2,d3];exact zD (zi _ _) hk
 have d3:(a.num != b.num)=false:=by simp[q3]
 by_cases q4:a.names.length=b.names.length
 rotate_left
 ·have d4:((a.names.length:Int) != (b.names.length:Int))=true:=by simp;omega
  simp only[go_sem,za,xlM,d1,d2,d3,d4];exact zD (zi _ _) hk
 have d4:((a.names.length:Int) != (b.names.length:Int))=false:=by simp[q4]
 have d5:((a.kids.length:Int) != (b.kids.length:Int))=true:=by
  have:a.kids.length≠b.kids.length:=fun q5=>h ⟨q1,q2,q3,q4,q5⟩;simp;omega
 simp only[go_sem,za,xlM,d1,d2,d3,d4,d5];exact zD (zi _ _) hk
theorem aG{a b:Nd}(ha:Few 100000 a)(hb:Few 100000 b):dB 13 a b:=by
 induction ha generalizing b with
 | mk a h h1 h2 ih =>
  intro K st hk;have hb':=hb;cases hb' with
  | mk _ g g1 g2 =>
  have hs:Zg a b=(decide (a.kind=b.kind)&&decide (a.text=b.text)&&decide (a.num=b.num)&&decide (a.names=b.names)&&qn a.kids b.kids):=by cases a;cases b;rfl
  by_cases hq:a.kind=b.kind∧a.text=b.text∧a.num=b.num∧a.names.length=b.names.length∧a.kids.length=b.kids.length
  ·refine aP (.mk a h h1 h2) hb hq.1 hq.2.1 hq.2.2.1 hq.2.2.2.1 hq.2.2.2.2 (fun x hx y hy=>ih x hx (g y hy)) ?_;rw[hs] at hk;simpa[hq.1,hq.2.1,hq.2.2.1] using hk
  ·refine eQ hq ?_;have:Zg a b=false:=by
    cases hh:Zg a b with
    | false=>rfl
    | true =>
     obtain⟨x1,x2,x3,x4,x5⟩:=XW hh;exact absurd ⟨x1,x2,x3,by rw[x4],Kk x5⟩ hq
   rw[this] at hk;exact hk
end Go.Proofs
namespace Go.AL
theorem cC(d:Nat)(n:Nd):∃ t e,JQ d n=some (t,e):=by
 unfold JQ;split
 ·exact⟨_,_,rfl⟩
 ·obtain⟨m,a,e,h,_⟩:=J9 (s:=qR d n);rw[h];exact⟨_,_,rfl⟩
theorem mr{d:Nat}{n:Nd}{t:Tx}{e:Int}(h:JQ d n=some (t,e)):(e=0∧t=qR d n∧0<n.kids.length∧∃ m a,qp t=some (m,a,0)∧Zg n m=true)∨(e=1∧t=[]):=by
 unfold JQ at h;split at h
 ·cases h;exact .inr ⟨rfl,rfl⟩
 ·rename_i hk;simp only[xoM,xpX,xpJ] at h;obtain⟨m,a,f,h1,h2⟩:=h;split at h2
  ·rename_i hc;cases h2;refine .inl ⟨rfl,rfl,by omega,m,a,?_,hc.2⟩;have:=hc.1;rw[h1,this]
  ·cases h2;exact .inr ⟨rfl,rfl⟩
end Go.AL
namespace Go.Proofs
open Go Go.AL Tryz
theorem nC{a b:Nd}(ha:Few 100000 a)(hb:Few 100000 b){v:Bool}(hv:Zg a b=v){K:SV→St→Prop}{st:St}(hk:K (.sc (.bool v)) st) :
  ACalls prog 13 [.agg [.sc (.int .i64 a.kind),.sc (.string (ba a.text)),.sc (.int .i64 a.num),.sc (.int .i64 a.pos),.slice .imm 1 (a.names.map qc),.slice .imm 6 (a.kids.map zq)],.agg [.sc (.int .i64 b.kind),.sc (.string (ba b.text)),.sc (.int .i64 b.num),.sc (.int .i64 b.pos),.slice .imm 1 (b.names.map qc),.slice .imm 6 (b.kids.map zq)],.sc (.bool false)] K st:=by
 subst hv;have:=aG ha hb _ _ hk;rw[qG,qG] at this;exact this
end Go.Proofs
namespace Go.AL
theorem vW{s:Tx}{n:Nd}{a:Int}(h:qp s=some (n,a,0)):s.length≤2000:=by
 unfold qp at h;cases hl:X8 s with
 | error x =>
  obtain⟨b,f⟩:=x;rw[hl] at h;simp only[xsJ,xpJ] at h;exact absurd h.2.2 (Wa hl)
 | ok T=>exact (Uo hl).2
theorem kU{s:Tx}{n:Nd}{a e:Int}(h:qp s=some (n,a,e)):Few 100000 n:=by
 obtain⟨n',a',e',h1,h2⟩:=J9 (s:=s);rw[h] at h1;cases h1;exact h2
end Go.AL
namespace Go.Proofs
open Go Go.AL Tryz
theorem P7:((0:Int)==0)=true:=rfl
theorem RF:((1:Int)==1)=true:=rfl
theorem Rx:(([]:Tx)==[])=true:=rfl
end Go.Proofs
namespace Go.AL
def GD(n:Nd):Prop:=((n.kind=28∨n.kind=29)∧1≤n.kids.length∧∀ c∈n.kids,GE c)∨(n.kind=25∧1≤n.kids.length)
def GP(n:Nd):Prop:=∃ ds e,n.kids=ds++[e]∧(∀ c∈ds,GD c)∧GE e
end Go.AL
