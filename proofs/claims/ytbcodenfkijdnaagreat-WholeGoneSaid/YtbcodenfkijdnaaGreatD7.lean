/- WholeGone, in 7 texts: part 7. For every input; no condition. -/
import Derived.Test.YtbcodenfkijdnaaGreatD6
import Derived.WalkKit
import Derived.ProofKit
import Derived.OpenShut
import Derived.ShutString
import Derived.ChangeOld
import Derived.Below
set_option linter.unusedVariables false
set_option linter.unusedSimpArgs false
set_option maxRecDepth 100000
namespace Go.Proofs.YtbcodenfkijdnaaGreat
open Go.ChangeShapes Go.WideShapes Go.ChangeAt Go.RowKit
open Go.Proofs.Tryz renaming prog→dZ
open List renaming length_map→eF
theorem aaQ:ownKnob Tryz.prog.godebug=none:=by kernel_rfl
theorem ZH:laidOutB dZ=true:=by kernel_rfl
theorem aaR (os:Os) (started:os.Started) (H:Type) (enc:TypeId×Value→H):
  ReturnsInHanded {} Tryz.checked os 10 .any (Rows.wholeGoneSpec.pre6 enc dZ Tryz.f10 Rows.wholeGoneRow.domain false) (Rows.wholeGoneSpec.post enc dZ Tryz.f10 false true false false):=by
 refine returnsInHanded_of_change (C:=Tryz.checked) aaQ started Kr Tryz.func10
  (ChangeSpec.witness6 (enc:=enc) (C:=Tryz.checked) false ⟨#[],#[.agg #[.int .i64 0,.int .i64 0,.int .i64 0,.int .i64 0,.int .i64 0,.int .i64 0,.int .i64 0,.int .i64 0,.int .i64 0,.int .i64 0,.int .i64 0,.int .i64 0,.int .i64 0,.int .i64 0,.int .i64 0,.bool false],.slice none 0 0,.slice none 0 0],[]⟩ 8 Kr Kr Kr Kr) ?_
 intro W base args ds gs before hval0 hW hcnd _
 have hval: ∀(j:Nat) t v,Tryz.f10.params[j]? =some t→args[j]? =some v→Value.okWide dZ W .any base t v:=hval0
 have hW':=hW
 obtain⟨p,q,hA0,hV,rfl,hfz,hnd⟩:=hW
 have hA:DataW.TrodAll enc dZ W 0 (λ_=>true) true Tryz.f10.params.toList args.toList ds p:=hA0
 rw[Tryz.params10] at hA hval
 obtain⟨v0,vs0,d0,ds0,p0,q0,hargs,rfl,rfl,h0,r0⟩:=trodAll_cons hA
 obtain⟨v1,vs1,d1,ds1,p1,q1,rfl,rfl,rfl,h1,r1⟩:=trodAll_cons r0
 obtain⟨v2,vs2,d2,ds2,p2,q2,rfl,rfl,rfl,h2,r2⟩:=trodAll_cons r1
 obtain⟨rfl,rfl,rfl⟩:=trodAll_nil r2
 obtain rfl:args=#[v0,v1,v2]:=by cases args;simp_all
 obtain⟨rfl,rfl⟩:=trodVars_none hV
 have k0:=h0
 have lt0: ∀x∈p0,x.block<W.heap.size:=by obtain⟨m,hm⟩:=k0;exact DataW.trod_lt m _ _ _ hm
 obtain⟨cs0,rfl,hc0⟩:=Qe 6 (ls:=E.cfLs) Kr (Qf Tryz.underlying31 rfl (hval 0 31 v0 rfl rfl)) h0
 obtain⟨za,zb,zc,zd,ze,zf,zg,zh,zi,zj,zk,zl,zm,zn,zo,zq,rfl⟩:=E.cells_cfg hc0
 obtain⟨AL,nL,cL,rfl⟩:=okWide_slice Tryz.underlying32 (hval 1 32 v1 rfl rfl)
 have k1:=h1
 have lt1: ∀x∈p1,x.block<W.heap.size:=by obtain⟨m,hm⟩:=k1;exact DataW.trod_lt m _ _ _ hm
 obtain⟨rows1,hl_L,hc1,hr_L,hq_L,_⟩:=Qh 6 (ls:=E.stLs) Kr Kr Dc Tryz.underlying32 h1
 obtain⟨L,rfl,hx_L⟩:=E.rows_st rows1 hc1
 have hl_L:L.length=nL:=by rw[←hl_L,eF]
 obtain⟨AM,nM,cM,rfl⟩:=okWide_slice Tryz.underlying32 (hval 2 32 v2 rfl rfl)
 have k2:=h2
 have lt2: ∀x∈p2,x.block<W.heap.size:=by obtain⟨m,hm⟩:=k2;exact DataW.trod_lt m _ _ _ hm
 obtain⟨rows2,hl_M,hc2,hr_M,hq_M,_⟩:=Qh 6 (ls:=E.stLs) Kr Kr Dc Tryz.underlying32 h2
 obtain⟨M,rfl,hx_M⟩:=E.rows_st rows2 hc2
 have hl_M:M.length=nM:=by rw[←hl_M,eF]
 clear hA0 hval0
 refine(WholeGone_any za zb zc zd ze zf zg zh zi zj zk zl zm zn zo zq AL nL cL L hl_L hq_L hx_L AM nM cM M hl_M hq_M hx_M W hr_L hr_M).mono λe W' ⟨he,bQ⟩=>?_
 subst he
 exact⟨_,rfl,_,_,_,[],_,[],hW',trodAll_mk1 (shut_bool Tryz.underlying4 _),(trodAll_cons_mk (Below.trod ZH Kr (of_decide_eq_true Kr) k0 bQ lt0) (trodAll_cons_mk (Below.trod ZH Kr (of_decide_eq_true Kr) k1 bQ lt1) (trodAll_cons_mk (Below.trod ZH Kr (of_decide_eq_true Kr) k2 bQ lt2) trodAll_mk0))),rfl,bQ.frame _,λh=>by cases h⟩
theorem aaS:(mapsRowed Tryz.checked.prog)=true:=by kernel_rfl
theorem aaT:((Rows.wholeGoneRow.inPlace==Tryz.checked.prog.inPlace 10))=true:=by kernel_rfl
theorem aaU:((Rows.wholeGoneRow.unfollowed==Tryz.checked.prog.unfollowed 10))=true:=by kernel_rfl
theorem aaV:((Rows.wholeGoneRow.recurses==Tryz.checked.prog.recurses 10))=true:=by kernel_rfl
theorem aaW:((Rows.wholeGoneRow.named==Tryz.checked.prog.varsNamed 10))=true:=by kernel_rfl
theorem aaX:((Rows.wholeGoneRow.plainKeys==Tryz.checked.prog.plainKeys))=true:=by kernel_rfl
theorem aaY {a b:Bool} (h:a=true) (g:b=true):(a&&b)=true:=by rw[h,g];rfl
theorem aaZ:joinedFacts Tryz.checked.prog 10 Tryz.f10 Rows.wholeGoneSpec Rows.wholeGoneRow=true:=by
 unfold joinedFacts
 repeat' (with_reducible first | exact ZH | exact aaS | exact aaT | exact aaU | exact aaV | exact aaW | exact aaX | refine aaY ?_ ?_)
 all_goals kernel_rfl
theorem WholeGone_holds:Rows.WholeGoneSaid:=
 OpenClaim.holds_of_wide 10 Tryz.f10 rfl rfl rfl rfl rfl rfl rfl ⟨rfl,rfl,rfl,rfl,rfl⟩ rfl rfl rfl rfl rfl Kr Tryz.func10 aaZ
  (of_decide_eq_true Kr) (by unfold Func.isWrapper;first | (rw[ALifp (by decide+kernel)];kernel_rfl) | (rw[ALifn (by decide+kernel)];exact⟨rfl,rfl⟩))
  (λos started H enc _=>aaR os started H enc)
end Go.Proofs.YtbcodenfkijdnaaGreat
