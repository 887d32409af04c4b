/- The library's functions that the lexer calls: strings.IndexByte, HasPrefix, Contains, TrimLeft. -/
import Derived.Shelf.Strings.Search3
import Derived.Shelf.Strings.Prefix
import Derived.Shelf.Strings.Trim
import Derived.Test.YtkokccjfpebomaaGreatDoorN8
set_option linter.all false
set_option maxHeartbeats 4000000
set_option maxRecDepth 8000
namespace Go.Proofs
open Go Go.AL Tryz Go.Shelf
variable {K:SV→St→Prop}{st:St}
def Tryz.lays217_ren:Go.Shelf.Ren:=⟨fun | 217=>119 | 266=>136 | n=>n,fun | 9=>9 | 5=>5 | 3=>3 | n=>n,fun | n=>n⟩
theorem Tryz.lays217:Go.Proofs.Lays.n217 prog Tryz.lays217_ren:={
 mixed:=by kernel_rfl
 f217:=func119.trans (congrArg some (by kernel_rfl))
 f266:=func136.trans (congrArg some (by kernel_rfl))
 t3:=Tryz.underlying3
 a3:=Tryz.isAgg3
 z3:=Tryz.sizeOf3
 v3:=Tryz.zeroValue3
 t5:=Tryz.underlying5
 a5:=Tryz.isAgg5
 z5:=Tryz.sizeOf5
 v5:=Tryz.zeroValue5
 t9:=Tryz.underlying9
 a9:=Tryz.isAgg9
 z9:=Tryz.sizeOf9
 v9:=Tryz.zeroValue9 }
def Tryz.lays99_ren:Go.Shelf.Ren:=⟨fun | 99=>120 | 206=>137 | n=>n,fun | 9=>9 | 4=>4 | 3=>3 | n=>n,fun | n=>n⟩
theorem Tryz.lays99:Go.Proofs.Lays.n99 prog Tryz.lays99_ren:={
 mixed:=by kernel_rfl
 f99:=func120.trans (congrArg some (by kernel_rfl))
 f206:=func137.trans (congrArg some (by kernel_rfl))
 t3:=Tryz.underlying3
 a3:=Tryz.isAgg3
 z3:=Tryz.sizeOf3
 v3:=Tryz.zeroValue3
 t4:=Tryz.underlying4
 a4:=Tryz.isAgg4
 z4:=Tryz.sizeOf4
 v4:=Tryz.zeroValue4
 t9:=Tryz.underlying9
 a9:=Tryz.isAgg9
 z9:=Tryz.sizeOf9
 v9:=Tryz.zeroValue9 }
def Tryz.lays144_ren:Go.Shelf.Ren:=⟨fun | 144=>135 | 143=>149 | 219=>160 | 217=>119 | 225=>168 | 224=>167 | 267=>169 | 266=>136 | 314=>171 | n=>n,fun | 9=>9 | 4=>4 | 3=>3 | 5=>5 | 46=>104 | 146=>156 | 51=>155 | n=>n,fun | 1=>0 | n=>n⟩
theorem Tryz.lays144:Go.Proofs.Lays.n144 prog Tryz.lays144_ren:={
 mixed:=by kernel_rfl
 f143:=func149.trans (congrArg some (by kernel_rfl))
 f144:=func135.trans (congrArg some (by kernel_rfl))
 f217:=func119.trans (congrArg some (by kernel_rfl))
 f219:=func160.trans (congrArg some (by kernel_rfl))
 f224:=func167.trans (congrArg some (by kernel_rfl))
 f225:=func168.trans (congrArg some (by kernel_rfl))
 f266:=func136.trans (congrArg some (by kernel_rfl))
 f267:=func169.trans (congrArg some (by kernel_rfl))
 f314:=func171.trans (congrArg some (by kernel_rfl))
 t3:=Tryz.underlying3
 a3:=Tryz.isAgg3
 z3:=Tryz.sizeOf3
 v3:=Tryz.zeroValue3
 t4:=Tryz.underlying4
 a4:=Tryz.isAgg4
 z4:=Tryz.sizeOf4
 v4:=Tryz.zeroValue4
 t5:=Tryz.underlying5
 a5:=Tryz.isAgg5
 z5:=Tryz.sizeOf5
 v5:=Tryz.zeroValue5
 t9:=Tryz.underlying9
 a9:=Tryz.isAgg9
 z9:=Tryz.sizeOf9
 v9:=Tryz.zeroValue9
 t46:=Tryz.underlying104
 a46:=Tryz.isAgg104
 z46:=Tryz.sizeOf104
 v46:=Tryz.zeroValue104
 t51:=Tryz.underlying155
 a51:=Tryz.isAgg155
 z51:=Tryz.sizeOf155
 v51:=Tryz.zeroValue155
 t146:=Tryz.underlying156
 a146:=Tryz.isAgg156
 z146:=Tryz.sizeOf156
 v146:=Tryz.zeroValue156
 g1:=by kernel_rfl }
def Tryz.lays161_ren:Go.Shelf.Ren:=⟨fun | 161=>113 | 231=>128 | 227=>129 | 233=>130 | 235=>131 | 228=>144 | 197=>145 | 151=>146 | 260=>158 | 152=>159 | 137=>100 | 119=>166 | 224=>167 | 225=>168 | 217=>119 | 266=>136 | n=>n,fun | 9=>9 | 4=>4 | 3=>3 | 5=>5 | 117=>125 | 116=>124 | 0=>0 | 124=>128 | 105=>135 | 21=>21 | 119=>150 | 46=>104 | 139=>153 | 138=>152 | n=>n,fun | 3=>1 | 4=>2 | n=>n⟩
theorem Tryz.lays161:Go.Proofs.Lays.n161 prog Tryz.lays161_ren:={
 mixed:=by kernel_rfl
 f119:=func166.trans (congrArg some (by kernel_rfl))
 f137:=func100.trans (congrArg some (by kernel_rfl))
 f151:=func146.trans (congrArg some (by kernel_rfl))
 f152:=func159.trans (congrArg some (by kernel_rfl))
 f161:=func113.trans (congrArg some (by kernel_rfl))
 f197:=func145.trans (congrArg some (by kernel_rfl))
 f217:=func119.trans (congrArg some (by kernel_rfl))
 f224:=func167.trans (congrArg some (by kernel_rfl))
 f225:=func168.trans (congrArg some (by kernel_rfl))
 f227:=func129.trans (congrArg some (by kernel_rfl))
 f228:=func144.trans (congrArg some (by kernel_rfl))
 f231:=func128.trans (congrArg some (by kernel_rfl))
 f233:=func130.trans (congrArg some (by kernel_rfl))
 f235:=func131.trans (congrArg some (by kernel_rfl))
 f260:=func158.trans (congrArg some (by kernel_rfl))
 f266:=func136.trans (congrArg some (by kernel_rfl))
 t0:=Tryz.underlying0
 a0:=Tryz.isAgg0
 z0:=Tryz.sizeOf0
 v0:=Tryz.zeroValue0
 t3:=Tryz.underlying3
 a3:=Tryz.isAgg3
 z3:=Tryz.sizeOf3
 v3:=Tryz.zeroValue3
 t4:=Tryz.underlying4
 a4:=Tryz.isAgg4
 z4:=Tryz.sizeOf4
 v4:=Tryz.zeroValue4
 t5:=Tryz.underlying5
 a5:=Tryz.isAgg5
 z5:=Tryz.sizeOf5
 v5:=Tryz.zeroValue5
 t9:=Tryz.underlying9
 a9:=Tryz.isAgg9
 z9:=Tryz.sizeOf9
 v9:=Tryz.zeroValue9
 t21:=Tryz.underlying21
 a21:=Tryz.isAgg21
 z21:=Tryz.sizeOf21
 v21:=Tryz.zeroValue21
 t46:=Tryz.underlying104
 a46:=Tryz.isAgg104
 z46:=Tryz.sizeOf104
 v46:=Tryz.zeroValue104
 t105:=Tryz.underlying135
 a105:=Tryz.isAgg135
 z105:=Tryz.sizeOf135
 v105:=Tryz.zeroValue135
 t116:=Tryz.underlying124
 a116:=Tryz.isAgg124
 z116:=Tryz.sizeOf124
 t117:=Tryz.underlying125
 a117:=Tryz.isAgg125
 z117:=Tryz.sizeOf125
 v117:=Tryz.zeroValue125
 t119:=Tryz.underlying150
 a119:=Tryz.isAgg150
 z119:=Tryz.sizeOf150
 t124:=Tryz.underlying128
 a124:=Tryz.isAgg128
 z124:=Tryz.sizeOf128
 v124:=Tryz.zeroValue128
 t138:=Tryz.underlying152
 a138:=Tryz.isAgg152
 z138:=Tryz.sizeOf152
 v138:=Tryz.zeroValue152
 t139:=Tryz.underlying153
 a139:=Tryz.isAgg153
 z139:=Tryz.sizeOf153
 v139:=Tryz.zeroValue153
 g3:=by kernel_rfl
 g4:=by kernel_rfl }
theorem LC{s:Tx}{c:UInt8}(hk:K (.sc (.int .i64 (Lib.indexByte s c))) st):ACalls prog 119 [.sc (.string (ba s)),.sc (.int .u8 c.toNat)] K st:=by
 refine Yt (fun _ _ _ =>.sc _) hk fun σ w vs hI hR=>?_;rw[Hv hR];have:=Any.stringslite_IndexByte Tryz.lays217 (ba s) c.toNat w;simp at this;exact this
theorem Vr{s:Tx}{c:UInt8}(hk:K (.sc (.int .i64 (Lib.indexByte s c))) st):ACalls prog 100 [.sc (.string (ba s)),.sc (.int .u8 c.toNat)] K st:=by
 refine zc [] func100 rfl results100 ntmps100 ?_;simp only[go_sem];refine LC ?_;simp only[go_sem];have:=zB (ex:=[]) (x :=.sc (.int .i64 (Lib.indexByte s c))) (K:=K) (st:=st) (zh _ _) hk;rwa[xaN] at this
theorem Ew{s p:Tx}(hk:K (.sc (.bool (Lib.hasPrefix s p))) st):ACalls prog 120 [.sc (.string (ba s)),.sc (.string (ba p))] K st:=by
 refine Yt (fun _ _ _ =>.sc _) hk fun σ w vs hI hR=>?_;rw[Hv hR];exact Any.strings_HasPrefix Tryz.lays99 (ba s) (ba p) w
theorem Ga{gid g:Nat}{m:Int}(hg:g=Tryz.lays144_ren.g 1){s p:Tx}(hst:st[gid]?=some (.glob g (.int .i64 m)))(hs:s.length<4294967281)(hk:K (.sc (.bool (Lib.contains s p))) st):ACalls prog 135 [.sc (.string (ba s)),.sc (.string (ba p))] K st:=by
 refine Yt (fun _ _ _ =>.sc _) hk fun σ w vs hI hR=>?_;rw[Hv hR];exact Any.strings_Contains Tryz.lays144 (ba s) (ba p) m w hs (by rw[←hg];exact hI.glob hst)
theorem Wm{s:Tx}{c:UInt8}(hc:c.toNat<128)(hk:K (.sc (.string (ba (s.dropWhile (· == c))))) st):ACalls prog 113 [.sc (.string (ba s)),.sc (.string (ba [c]))] K st:=by
 refine Yt (fun _ _ _ =>.sc _) hk fun σ w vs hI hR=>?_;rw[Hv hR];exact Any.strings_TrimLeft_one Tryz.lays161 (ba s) c hc w
end Go.Proofs
namespace Go.AL
theorem zD{st:St}{K:SV→St→Prop}{x:SV}(hi:Ids st.length (norm x)=True)(hk:K (norm x) st):Ba st K x st:=by
 have:=zB (ex:=[]) hi hk;rwa[xaN] at this
theorem Ua(c d:UInt8)(n:Int)(h:(d.toNat:Int)=n):decide (n≤(c.toNat:Int))=decide (d≤c):=by
 subst h;rw[decide_eq_decide,UInt8.le_iff_toNat_le];omega
theorem K7(c d:UInt8)(n:Int)(h:(d.toNat:Int)=n):decide ((c.toNat:Int)≤n)=decide (c≤d):=by
 subst h;rw[decide_eq_decide,UInt8.le_iff_toNat_le];omega
theorem Zw(c d:UInt8)(n:Int)(h:(d.toNat:Int)=n):((c.toNat:Int)==n)=(c==d):=by
 subst h;rw[Bool.eq_iff_iff];simp only[beq_iff_eq];constructor
 ·intro h;exact UInt8.toNat_inj.1 (by omega)
 ·rintro rfl;rfl
theorem EN(c d:UInt8)(n:Int)(h:(d.toNat:Int)=n):((c.toNat:Int) != n)=(c != d):=by
 unfold bne;rw[Zw c d n h]
end Go.AL
namespace Go.Proofs
open Go Go.AL Tryz
variable {K:SV→St→Prop}{st:St}
theorem JQ{c:UInt8}(hk:K (.sc (.bool (zV c))) st):ACalls prog 94 [.sc (.int .u8 c.toNat)] K st:=by
 refine zc [] func94 rfl results94 ntmps94 ?_;have e1:=Ua c 48 48 rfl;have e2:=K7 c 57 57 rfl;unfold zV at hk;cases h1:decide (48≤c) with
 | false=>rw[h1] at hk e1;simp only[go_sem,ge_iff_le,e1];exact zD (zh _ _) hk
 | true=>rw[h1] at hk e1;simp only[go_sem,ge_iff_le,e1,e2];exact zD (zh _ _) hk
theorem Vz{c:UInt8}(hk:K (.sc (.bool (qY c))) st):ACalls prog 97 [.sc (.int .u8 c.toNat)] K st:=by
 refine zc [] func97 rfl results97 ntmps97 ?_;have e1:=Ua c 97 97 rfl;have e2:=K7 c 122 122 rfl;unfold qY at hk;cases h1:decide (97≤c) with
 | false=>rw[h1] at hk e1;simp only[go_sem,ge_iff_le,e1];exact zD (zh _ _) hk
 | true=>rw[h1] at hk e1;simp only[go_sem,ge_iff_le,e1,e2];exact zD (zh _ _) hk
theorem JN{c:UInt8}(hk:K (.sc (.bool (qL c))) st):ACalls prog 98 [.sc (.int .u8 c.toNat)] K st:=by
 refine zc [] func98 rfl results98 ntmps98 ?_;have e1:=Ua c 65 65 rfl;have e2:=K7 c 90 90 rfl;unfold qL at hk;cases h1:decide (65≤c) with
 | false=>rw[h1] at hk e1;simp only[go_sem,ge_iff_le,e1];exact zD (zh _ _) hk
 | true=>rw[h1] at hk e1;simp only[go_sem,ge_iff_le,e1,e2];exact zD (zh _ _) hk
theorem td{c:UInt8}(hk:K (.sc (.bool (zH c))) st):ACalls prog 117 [.sc (.int .u8 c.toNat)] K st:=by
 refine zc [] func117 rfl results117 ntmps117 ?_;have e1:=Zw c 95 95 rfl;unfold zH at hk;cases h1:qY c with
 | true =>
  rw[h1] at hk;simp only[go_sem];refine Vz ?_;simp only[go_sem,h1];exact zD (zh _ _) hk
 | false =>
  cases h2:qL c with
  | true =>
   rw[h1,h2] at hk;simp only[go_sem];refine Vz ?_;simp only[go_sem,h1];refine JN ?_;simp only[go_sem,h1,h2];exact zD (zh _ _) hk
  | false =>
   cases h3:zV c with
   | true =>
    rw[h1,h2,h3] at hk;simp only[go_sem];refine Vz ?_;simp only[go_sem,h1];refine JN ?_;simp only[go_sem,h1,h2];refine JQ ?_;simp only[go_sem,h1,h2,h3];exact zD (zh _ _) hk
   | false =>
    rw[h1,h2,h3] at hk;simp only[go_sem];refine Vz ?_;simp only[go_sem,h1];refine JN ?_;simp only[go_sem,h1,h2];refine JQ ?_;simp only[go_sem,h1,h2,h3,e1];exact zD (zh _ _) hk
theorem Wj{c:UInt8}(hk:K (.sc (.bool (YB c))) st):ACalls prog 91 [.sc (.int .u8 c.toNat)] K st:=by
 refine zc [] func91 rfl results91 ntmps91 ?_;have e1:=Ua c 32 32 rfl;have e2:=K7 c 126 126 rfl;have e3:=EN c 34 34 rfl;have e4:=EN c 92 92 rfl;unfold YB at hk;cases h1:decide (32≤c) with
 | false=>rw[h1] at hk e1;simp only[go_sem,ge_iff_le,e1];exact zD (zh _ _) hk
 | true =>
  rw[h1] at hk e1;cases h2:decide (c≤126) with
  | false=>rw[h2] at hk e2;simp only[go_sem,ge_iff_le,e1,e2];exact zD (zh _ _) hk
  | true =>
   rw[h2] at hk e2;cases h3:c != 34 with
   | false=>rw[h3] at hk e3;simp only[go_sem,ge_iff_le,e1,e2,e3];exact zD (zh _ _) hk
   | true=>rw[h3] at hk e3;simp only[go_sem,ge_iff_le,e1,e2,e3,e4];exact zD (zh _ _) hk
def QK(c:UInt8):SV :=.sc (.int .u8 c.toNat)
theorem wB{id:Nat}{l:Tx}(hl:l.length≤1000000){c:UInt8}(hid:st[id]?=some (.cells (l.map QK)))(hk:K (.sc (.int .i64 (match l.findIdx? (· == c) with | some k=>(k:Int) | none => -1))) st) :
  ACalls prog 148 [.slc id 1 0 l.length l.length,.sc (.int .u8 c.toNat)] K st:=by
 refine zc [] func148 rfl results148 ntmps148 ?_;have y:=zF hid;simp only[go_sem];refine zt [] (fun k env s=>∃ j:Nat,k+j=l.length∧(l.take j).findIdx? (· == c)=none∧env=(.slc id 1 0 l.length l.length :: .sc (.int .u8 c.toNat) :: .any::XQ (.sc (.int .i64 l.length) :: .sc (.int .i64 j) :: .any :: .any::JW []))∧s=st) (n:=l.length) ?_ ⟨0,by omega,by simp,rfl,rfl⟩ ?_
 ·exact qv
 rintro k env s ⟨j,hj,hx,rfl,rfl⟩;by_cases hlt:j<l.length
 ·have c1:decide ((j:Int)<(l.length:Int))=true:=by simp;omega
  have hw:IntKind.i64.wrap ((j:Int)+1)=((j+1:Nat):Int):=by rw[IntWalk.i64_in _ (by omega)];rfl
  have hsp:l.findIdx? (· == c)=(((l.drop j).findIdx? (· == c)).map (· + j)):=by
   conv=>lhs;rw[←List.take_append_drop j l,List.findIdx?_append,hx]
   simp[List.length_take,Nat.min_eq_left (Nat.le_of_lt hlt)]
  have hdr:l.drop j=l[j]::l.drop (j+1):=List.drop_eq_getElem_cons hlt;have hdm:(l.map QK).drop j=QK l[j]::(l.drop (j+1)).map QK:=by rw[←List.map_drop,hdr];rfl
  have e1:=Zw c l[j] (l[j].toNat:Int) rfl;cases hb:c==l[j] with
  | true =>
   have hb2:l[j]=c:=(beq_iff_eq.1 hb).symm;rw[hb] at e1;rw[hsp,hdr,List.findIdx?_cons,hb2] at hk;simp only[BEq.rfl,if_true,xmS,Nat.zero_add] at hk;simp only[go_sem,c1,y.1,y.2.1,y.2.2,hdm,QK,e1,Nat.mul_one,Nat.zero_add];exact⟨by omega,zD (zh _ _) hk⟩
  | false =>
   rw[hb] at e1;simp only[go_sem,c1,y.1,y.2.1,y.2.2,hdm,QK,e1,hw,Nat.mul_one,Nat.zero_add];refine⟨by omega,k-1,_,by omega,?_,j+1,by omega,?_,rfl⟩
   ·exact qv
   ·rw[List.take_succ_eq_append_getElem hlt,List.findIdx?_append,hx];have hb3:(l[j]==c)=false:=by rw[beq_eq_false_iff_ne] at hb ⊢;exact fun h=>hb h.symm
    simp[List.findIdx?_cons,hb3]
 ·have c1:decide ((j:Int)<(l.length:Int))=false:=by simp;omega
  rw[List.take_of_length_le (by omega)] at hx;rw[hx] at hk;simp only[go_sem,c1];exact zD (zh _ _) hk
def X9(l:List (UInt8×UInt8)):List (Value×SV):=l.map fun q=>(.int .u8 q.1.toNat,QK q.2)
def W0:List (UInt8×UInt8):=[(110,10),(34,34),(92,92)]
theorem UA{P:Program}{kt:TypeId}(n:Int):qN P kt (.int .u8) (.int .u8 n)=true:=by simp[qN,ZI]
theorem BT{P:Program}{kt:TypeId}(l:List (UInt8×UInt8)):(X9 l).all (fun q=>qN P kt (.int .u8) q.1)=true:=by
 rw[List.all_eq_true];intro q hq;obtain⟨a,_,rfl⟩:=List.mem_map.1 hq;exact UA _
theorem HZ{n v:UInt8}{st:St}{l:List (UInt8×UInt8)}{N:St→Prop}(hn:J5 (X9 l) (.int .u8 n.toNat) (QK v)=X9 (l++[(n,v)]))
  (h:N (st++[.map (X9 (l++[(n,v)]))])):Ze prog 139 (st++[.map (X9 l)]) (.mp st.length) (.sc (.int .u8 n.toNat)) (QK v) N:=by
 have hm:(st++[Ob.map (X9 l)])[st.length]?=some (.map (X9 l)):=by simp
 simp only[Ze,EE,AL.keyOf,Tryz.amap139,(V6 hm).2,UA,BT,Bool.and_self,if_true,hn];have:(st++[Ob.map (X9 l)]).set st.length (.map (X9 (l++[(n,v)])))=st++[.map (X9 (l++[(n,v)]))]:=by
  rw[List.set_append_right _ _ (Nat.le_refl _)];simp
 rw[this];exact h
theorem Ca{st:St}{N:St→Prop}(h:N (st++[.map (X9 W0)])) :
  Ze prog 139 (st++[.map []]) (.mp st.length) (.sc (.int .u8 110)) (.sc (.int .u8 10)) fun x=>Ze prog 139 x (.mp st.length) (.sc (.int .u8 34)) (.sc (.int .u8 34)) fun x=>Ze prog 139 x (.mp st.length) (.sc (.int .u8 92)) (.sc (.int .u8 92)) N :=
 HZ (l:=[]) (n:=110) (v:=10) rfl (HZ (l:=[(110,10)]) (n:=34) (v:=34) rfl (HZ (l:=[(110,10),(34,34)]) (n:=92) (v:=92) rfl h))
theorem DY(hk:K (.mp st.length) (st++[.map (X9 W0)])):ACalls prog 147 [] K st:=by
 refine Qr (M:=[]) func147 rfl results147 ntmps147 ?_;simp only[go_sem];exact Ca hk
theorem fp(a b:UInt8):JA (.int .u8 (a.toNat:Int)) (.int .u8 (b.toNat:Int))=decide (a=b):=by
 have:=Wt (d :=.int .u8) (a :=.int .u8 (a.toNat:Int)) (b :=.int .u8 (b.toNat:Int)) (by simp[ZI]) (by simp[ZI]);by_cases hc:a=b
 ·subst hc;simp only[decide_true];exact this.2 rfl
 ·simp only[hc,decide_false];cases hk:JA (.int .u8 (a.toNat:Int)) (.int .u8 (b.toNat:Int)) with
  | false=>rfl
  | true=>exact absurd (UInt8.toNat_inj.1 (Int.ofNat_inj.1 (Value.int.inj (this.1 hk)).2)) hc
theorem xT{st:St}{id:Nat}(hid:QM st id=some (X9 W0))(hz:WH prog 5=some (.sc (.int .u8 0)))(c:UInt8):XI prog 139 st (.mp id) (.sc (.int .u8 c.toNat)) =
  some (if c=110 then (QK 10,true) else if c=34 then (QK 34,true) else if c=92 then (QK 92,true) else (QK 0,false)):=by
 simp only[XI,AL.keyOf,Tryz.amap139,hid,hz,UA,BT,Bool.and_self,if_true];unfold AL.keyIdx X9 W0;simp only[List.map_cons,List.map_nil,List.findIdx?_cons,fp,List.findIdx?_nil];by_cases h1:c=110
 ·simp[h1]
 by_cases h2:c=34
 ·simp[h2]
 by_cases h3:c=92
 ·simp[h3]
 ·simp[h1,h2,h3,QK]
theorem Tryz.fieldsOk102:Qq prog 102=true:=by kernel_rfl
theorem Tryz.aF102_0:zP prog 102 0=none:=by kernel_rfl
theorem Tryz.aF102_1:zP prog 102 1=none:=by kernel_rfl
theorem Tryz.aF102_2:zP prog 102 2=none:=by kernel_rfl
theorem Tryz.aF102_3:zP prog 102 3=none:=by kernel_rfl
theorem Tryz.aF102_4:zP prog 102 4=none:=by kernel_rfl
theorem Tryz.aF102_5:zP prog 102 5=none:=by kernel_rfl
theorem Tryz.aF102_6:zP prog 102 6=none:=by kernel_rfl
theorem Tryz.aF102_7:zP prog 102 7=none:=by kernel_rfl
theorem Tryz.aF102_8:zP prog 102 8=none:=by kernel_rfl
theorem Tryz.aF102_9:zP prog 102 9=none:=by kernel_rfl
theorem Tryz.aF102_10:zP prog 102 10=none:=by kernel_rfl
theorem Tryz.aF102_11:zP prog 102 11=none:=by kernel_rfl
theorem Tryz.aF102_12:zP prog 102 12=none:=by kernel_rfl
theorem Tryz.aF102_13:zP prog 102 13=none:=by kernel_rfl
theorem Tryz.aF102_14:zP prog 102 14=none:=by kernel_rfl
theorem Tryz.aF102_15:zP prog 102 15=none:=by kernel_rfl
theorem Tryz.und102:prog.underlying 102=some (.array 16 5):=by kernel_rfl
theorem Fi(hk:K (.agg (hexL.map QK)) st):ACalls prog 90 [] K st:=by
 refine Z4 [] func90 rfl results90 ntmps90 ?_;simp only[go_sem,Tryz.und102,Tryz.fieldsOk102,Tryz.aF102_0,Tryz.aF102_1,Tryz.aF102_2,Tryz.aF102_3,Tryz.aF102_4,Tryz.aF102_5,Tryz.aF102_6,Tryz.aF102_7,Tryz.aF102_8,Tryz.aF102_9,Tryz.aF102_10,Tryz.aF102_11,Tryz.aF102_12,Tryz.aF102_13,Tryz.aF102_14,Tryz.aF102_15];refine⟨st,_,rfl,Mod.refl _,?_,hk⟩;rw[Z9];intro x hx;simp only[List.mem_cons,List.not_mem_nil,or_false] at hx;rcases hx with h | h | h | h | h | h | h | h | h | h | h | h | h | h | h | h <;> subst h <;> exact .sc _
end Go.Proofs
