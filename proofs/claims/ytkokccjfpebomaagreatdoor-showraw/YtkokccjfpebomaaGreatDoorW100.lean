/- What is proved: ShowRaw: a node that is made up is shown just if a source says it, and then as that: for every input that the given row speaks of; the listed package variables are tied to the program's text. -/
import Derived.Test.YtkokccjfpebomaaGreatDoorX1
import Derived.Test.YtkokccjfpebomaaGreatDoorR4
import Derived.Test.YtkokccjfpebomaaGreatDoorA9
import Derived.Test.YtkokccjfpebomaaGreatDoorCards
import Derived.Test.YtkokccjfpebomaaGreatDoorTie
import Derived.ProofKit
import Derived.LaidMore
import Derived.Lay
import Derived.OpenShut
import Derived.Stop.Joined
import Derived.SevenTiedAt
import Derived.Shelf.Vars
import Derived.ChangeMaps5
set_option linter.all false
namespace Go.Proofs.YtkokccjfpebomaaGreatDoor.showRaw
open Go.ChangeMaps Go.ChangeShapes Go.WideShapes Go.ChangeAt Go.RowKit Go.AL Go.RowKit
theorem own:ownKnob Tryz.prog.godebug=none:=by kernel_rfl
theorem bv {W:World} (h:W.ShapedOpen Tryz.prog):∃ m,W.cell? ⟨0,0,none⟩=some (.int .i64 m) :=
 cell_of_shapedOpen_int (zero:=#[.int .i64 0]) (t:=3) h (by decide +kernel) (by kernel_rfl) rfl (by kernel_rfl) (by kernel_rfl) (by kernel_rfl)
set_option maxRecDepth 100000 in
theorem lifted (os:Os) (started:os.Started) (H:Type) (enc:TypeId×Value→H) :
  ReturnsInHanded {} Tryz.checked os 6 .any (fun w args=>(Rows.showRawSpec.pre enc Tryz.prog Tryz.f6 [] false w args∧laidMetH Tryz.prog Rows.showRawRow.laid w)∧sizedMet enc Tryz.prog Tryz.f6 (OpenSpec.ofChange Rows.showRawSpec) false w args)
   (Rows.showRawSpec.post enc Tryz.prog Tryz.f6 false true false false):=by
 refine Dh (C:=Tryz.checked) (X:=fun w _=>laidMetH Tryz.prog Rows.showRawRow.laid w) own started (by kernel_rfl) Tryz.func6
  (ChangeSpec.witness_shaped (enc:=enc) (C:=Tryz.checked) (os:=os) (X:=fun w _=>laidMetH Tryz.prog Rows.showRawRow.laid w) false (World.laidAll Tryz.prog os Rows.showRawRow.laid) #[.agg #[.int .i64 0,.string ⟨#[]⟩,.int .i64 0,.int .i64 0,.slice none 0 0,.slice none 0 0]] 8 (World.laidAll_os _ _ _) (World.shaped_of_ZipB (by kernel_rfl) (by kernel_rfl)) (by kernel_rfl) (by kernel_rfl) (by kernel_rfl)
   (by rw[MakeChecks.laidMetH_plain _ _ _ (by kernel_rfl)];exact laidMet_laidAll _ (by kernel_rfl) (by kernel_rfl))) ?_
 intro W base args ds gs before hsh hval0 hW
 have hval:∀ (j:Nat) t v,Tryz.f6.params[j]?=some t→args[j]?=some v→Value.okWide Tryz.prog W .any base t v:=hval0
 have hW':=hW
 obtain⟨p,q,hA0,hV,rfl,hfz,hnd⟩:=hW
 have hA:DataW.TrodAll enc Tryz.prog W 0 (fun _=>true) true Tryz.f6.params.toList args.toList ds p:=hA0
 rw[Tryz.params6] at hA hval
 obtain⟨v0,vs0,d0,ds0,p0,q0,hargs,rfl,rfl,h0,r0⟩:=trodAll_cons hA
 obtain⟨rfl,rfl,rfl⟩:=trodAll_nil r0
 obtain rfl:args=#[v0]:=by cases args;simp_all
 obtain⟨rfl,rfl⟩:=trodVars_none hV
 obtain⟨t,hnr,hrep⟩:=lu (hval 0 26 v0 rfl rfl) h0
 clear hA0 hval0
 simp only[List.append_nil] at hW'
 obtain⟨m,hm⟩:=bv hsh
 refine (Bv hm (args:=[zq t]) (sI hnr (gid:=0) (gm:=m) (st:=[.glob 0 (.int .i64 m)]) (K:=fun x _=>x = .sc (.bool true)) (show UC 0 m [.glob 0 (.int .i64 m)] from rfl) rfl) ⟨rfl,fun i hi=>?_⟩).mono fun e W' ⟨he,hg⟩=>?_
 ·match i,hi with
  | 0,_=>exact hrep
 subst he
 have hlt:∀ x∈p0,x.block<W.heap.size:=fun x hx=>by simpa using hW'.lt x (by simp[hx])
 exact⟨_,rfl,Be (pa:=p0) (pv:=[]) hW' (fun _ _ _=>(trodAll_cons_mk (shut_bool Tryz.underlying4 _) trodAll_mk0))
  (fun sp hsp=>by
   have:=trodAll_cons_mk (WideElems.Trod_stays (sp':=sp) ph uQ sd h0 (fun x hx=>hg.same (hlt x hx)) (fun x hx=>hsp x hx)) trodAll_mk0
   simp only[List.append_nil] at this
   exact this) (fun _ _=>rfl) (by simp)
  hg (ok_one (by kernel_rfl) rfl (okWide_bool_mk Tryz.underlying4 _))⟩
theorem over:Rows.ShowRawSaid :=
 OpenClaim.holds_of_wide 6 Tryz.f6 rfl rfl rfl rfl rfl rfl rfl ⟨rfl,rfl,rfl,rfl,rfl⟩ rfl rfl rfl rfl rfl (by kernel_rfl) Tryz.func6 (by kernel_rfl)
  (of_decide_eq_true (by kernel_rfl)) (by unfold Func.isWrapper;first | (rw[if_pos (by decide +kernel)];kernel_rfl) | (rw[if_neg (by decide +kernel)];exact⟨rfl,rfl⟩))
  (fun os started H enc _=>lifted os started H enc)
theorem proved:Rows.ShowRawCardSaid :=
 Claim7.holds_tied_plain_at .later [] [.data, .pinned] true (true, "59fcee8c09a788dcda6191839261fce8e16984ccf00b3177903f432a81975a2f") false
  over (fun _ h=>by cases h) (by kernel_rfl) (fun _ h=>by cases h) showRaw_row_tie rfl ⟨rfl,rfl⟩ (by kernel_rfl) rfl
  (fun f fn hf hfn=>by
   obtain rfl : f = 6 := Option.some.inj ((show Tryz.prog.funcNamed "selvage/selvagelaw06.ShowRaw" = some 6 by kernel_rfl).symm.trans hf) |>.symm
   obtain rfl:fn=Tryz.f6:=(Option.some.inj (Tryz.func6.symm.trans hfn)).symm
   exact⟨by kernel_rfl,fun j t ht=>by
    rw[Tryz.params6] at ht
    have hm:t∈[26]:=by simpa using Array.mem_of_getElem? ht
    have hall:([26].all fun u => !Tryz.prog.wantsStandIn u)=true:=by kernel_rfl
    exact (show Tryz.prog.wantsStandIn t=false by simpa using List.all_eq_true.1 hall t hm)⟩)
  (by kernel_rfl)
#print axioms proved
end Go.Proofs.YtkokccjfpebomaaGreatDoor.showRaw
