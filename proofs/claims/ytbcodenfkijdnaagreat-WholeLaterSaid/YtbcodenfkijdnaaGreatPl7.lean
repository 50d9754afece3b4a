/- WholeLater, in 7 texts: part 7. For every input; no condition. -/
import Derived.Test.YtbcodenfkijdnaaGreatPl6
import Derived.WalkKit
import Derived.ProofKit
import Derived.OpenShut
import Derived.ShutString
import Derived.ChangeOld
import Derived.Below
set_option linter.unusedVariables false
set_option linter.unusedSimpArgs false
set_option maxRecDepth 100000
namespace Go.Proofs.YtbcodenfkijdnaaGreat
open Go.ChangeAt Go.ChangeShapes Go.RowKit Go.WideShapes
open Go.Proofs.Tryz renaming prog→WJ
open List renaming length_map→WK
theorem V5:ownKnob Tryz.prog.godebug=none:=by kernel_rfl
theorem s7:laidOutB WJ=true:=by kernel_rfl
set_option maxRecDepth 100000 in
theorem V6 (os:Os) (started:os.Started) (H:Type) (enc:TypeId×Value→H):
  ReturnsInHanded {} Tryz.checked os 7 .any (Rows.wholeLaterSpec.pre6 enc WJ Tryz.f7 Rows.wholeLaterRow.domain false) (Rows.wholeLaterSpec.post enc WJ Tryz.f7 false true false false):=by
 refine returnsInHanded_of_change (C:=Tryz.checked) V5 started (by kernel_rfl) Tryz.func7
  (ChangeSpec.witness6 (enc:=enc) (C:=Tryz.checked) false ⟨#[],#[.agg #[.int .i64 0,.int .i64 0,.int .i64 0,.int .i64 0,.int .i64 0,.int .i64 0,.int .i64 0,.int .i64 0,.int .i64 0,.int .i64 0,.int .i64 0,.int .i64 0,.int .i64 0,.int .i64 0,.int .i64 0,.bool false],.slice none 0 0,.slice none 0 0,.slice none 0 0],[]⟩ 8 (by kernel_rfl) (by kernel_rfl) (by kernel_rfl) (by kernel_rfl)) ?_
 intro W base args ds gs before hval0 hW hcnd _
 have hval: ∀(j:Nat) t v,Tryz.f7.params[j]? =some t→args[j]? =some v→Value.okWide WJ W .any base t v:=hval0
 have hW':=hW
 obtain⟨p,q,hA0,hV,rfl,hfz,hnd⟩:=hW
 have hA:DataW.TrodAll enc WJ W 0 (λ_=>true) true Tryz.f7.params.toList args.toList ds p:=hA0
 rw[Tryz.params7] at hA hval
 obtain⟨v0,vs0,d0,ds0,p0,q0,hargs,rfl,rfl,h0,r0⟩:=trodAll_cons hA
 obtain⟨v1,vs1,d1,ds1,p1,q1,rfl,rfl,rfl,h1,r1⟩:=trodAll_cons r0
 obtain⟨v2,vs2,d2,ds2,p2,q2,rfl,rfl,rfl,h2,r2⟩:=trodAll_cons r1
 obtain⟨v3,vs3,d3,ds3,p3,q3,rfl,rfl,rfl,h3,r3⟩:=trodAll_cons r2
 obtain⟨rfl,rfl,rfl⟩:=trodAll_nil r3
 obtain rfl:args=#[v0,v1,v2,v3]:=by cases args;simp_all
 obtain⟨rfl,rfl⟩:=trodVars_none hV
 have k0:=h0
 have lt0: ∀x∈p0,x.block<W.heap.size:=by obtain⟨m,hm⟩:=k0;exact DataW.trod_lt m _ _ _ hm
 obtain⟨cs0,rfl,hc0⟩:=Nv 6 (ls:=E.cfLs) (by kernel_rfl) (Nw Tryz.underlying31 rfl (hval 0 31 v0 rfl rfl)) h0
 obtain⟨za,zb,zc,zd,ze,zf,zg,zh,zi,zj,zk,zl,zm,zn,zo,zq,rfl⟩:=E.cells_cfg hc0
 obtain⟨AL,nL,cL,rfl⟩:=okWide_slice Tryz.underlying32 (hval 1 32 v1 rfl rfl)
 have k1:=h1
 have lt1: ∀x∈p1,x.block<W.heap.size:=by obtain⟨m,hm⟩:=k1;exact DataW.trod_lt m _ _ _ hm
 obtain⟨rows1,hl_L,hc1,hr_L,hq_L,_⟩:=yh 6 (ls:=E.stLs) (by kernel_rfl) (by kernel_rfl) (by decide) Tryz.underlying32 h1
 obtain⟨L,rfl,hx_L⟩:=E.rows_st rows1 hc1
 have hl_L:L.length=nL:=by rw[←hl_L,WK]
 obtain⟨AF,nF,cF,rfl⟩:=okWide_slice Tryz.underlying93 (hval 2 93 v2 rfl rfl)
 have k2:=h2
 have lt2: ∀x∈p2,x.block<W.heap.size:=by obtain⟨m,hm⟩:=k2;exact DataW.trod_lt m _ _ _ hm
 obtain⟨rows2,hl_F,hc2,hr_F,hq_F,_⟩:=yh 6 (ls:=E.faLs) (by kernel_rfl) (by kernel_rfl) (by decide) Tryz.underlying93 h2
 obtain⟨F,rfl,hx_F⟩:=E.rows_fa rows2 hc2
 have hl_F:F.length=nF:=by rw[←hl_F,WK]
 obtain⟨AM,nM,cM,rfl⟩:=okWide_slice Tryz.underlying32 (hval 3 32 v3 rfl rfl)
 have k3:=h3
 have lt3: ∀x∈p3,x.block<W.heap.size:=by obtain⟨m,hm⟩:=k3;exact DataW.trod_lt m _ _ _ hm
 obtain⟨rows3,hl_M,hc3,hr_M,hq_M,_⟩:=yh 6 (ls:=E.stLs) (by kernel_rfl) (by kernel_rfl) (by decide) Tryz.underlying32 h3
 obtain⟨M,rfl,hx_M⟩:=E.rows_st rows3 hc3
 have hl_M:M.length=nM:=by rw[←hl_M,WK]
 clear hA0 hval0
 refine(WholeLater_any za zb zc zd ze zf zg zh zi zj zk zl zm zn zo zq AL nL cL L hl_L hq_L hx_L AF nF cF F hl_F hq_F AM nM cM M hl_M hq_M hx_M W hr_L hr_F hr_M).mono λe W' ⟨he,bK⟩=>?_
 subst he
 exact⟨_,rfl,_,_,_,[],_,[],hW',trodAll_mk1 (shut_bool Tryz.underlying4 _),(trodAll_cons_mk (Below.trod s7 (by kernel_rfl) (of_decide_eq_true (by kernel_rfl)) k0 bK lt0) (trodAll_cons_mk (Below.trod s7 (by kernel_rfl) (of_decide_eq_true (by kernel_rfl)) k1 bK lt1) (trodAll_cons_mk (Below.trod s7 (by kernel_rfl) (of_decide_eq_true (by kernel_rfl)) k2 bK lt2) (trodAll_cons_mk (Below.trod s7 (by kernel_rfl) (of_decide_eq_true (by kernel_rfl)) k3 bK lt3) trodAll_mk0)))),rfl,bK.frame _,λh=>by cases h⟩
theorem V7:(mapsRowed Tryz.checked.prog)=true:=by kernel_rfl
theorem V8:((Rows.wholeLaterRow.inPlace==Tryz.checked.prog.inPlace 7))=true:=by kernel_rfl
theorem V9:((Rows.wholeLaterRow.unfollowed==Tryz.checked.prog.unfollowed 7))=true:=by kernel_rfl
theorem Wb:((Rows.wholeLaterRow.recurses==Tryz.checked.prog.recurses 7))=true:=by kernel_rfl
theorem Wc:((Rows.wholeLaterRow.named==Tryz.checked.prog.varsNamed 7))=true:=by kernel_rfl
theorem Wd:((Rows.wholeLaterRow.plainKeys==Tryz.checked.prog.plainKeys))=true:=by kernel_rfl
theorem We {a b:Bool} (h:a=true) (g:b=true):(a&&b)=true:=by rw[h,g];rfl
theorem Wf:joinedFacts Tryz.checked.prog 7 Tryz.f7 Rows.wholeLaterSpec Rows.wholeLaterRow=true:=by
 unfold joinedFacts
 repeat' (with_reducible first | exact s7 | exact V7 | exact V8 | exact V9 | exact Wb | exact Wc | exact Wd | refine We ?_ ?_)
 all_goals kernel_rfl
theorem WholeLater_holds:Rows.WholeLaterSaid:=
 OpenClaim.holds_of_wide 7 Tryz.f7 rfl rfl rfl rfl rfl rfl rfl ⟨rfl,rfl,rfl,rfl,rfl⟩ rfl rfl rfl rfl rfl (by kernel_rfl) Tryz.func7 Wf
  (of_decide_eq_true (by kernel_rfl)) (by unfold Func.isWrapper;first | (rw[if_pos (by decide+kernel)];kernel_rfl) | (rw[if_neg (by decide+kernel)];exact⟨rfl,rfl⟩))
  (λos started H enc _=>V6 os started H enc)
end Go.Proofs.YtbcodenfkijdnaaGreat
