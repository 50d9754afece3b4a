/- WholeTold, in 7 texts: part 7. For every input; no condition. -/
import Derived.Test.YtbcodenfkijdnaaGreatPt6
import Derived.WalkKit
import Derived.ProofKit
import Derived.OpenShut
import Derived.ShutString
import Derived.ChangeOld
import Derived.Below
set_option linter.unusedVariables false
set_option linter.unusedSimpArgs false
set_option maxRecDepth 100000
namespace Go.Proofs.YtbcodenfkijdnaaGreat
open Go.ChangeAt Go.ChangeShapes Go.RowKit Go.WideShapes
open Go.Proofs.Tryz renaming prog→YU
theorem XZ:ownKnob Tryz.prog.godebug=none:=by kernel_rfl
theorem AS:laidOutB YU=true:=by kernel_rfl
set_option maxRecDepth 100000 in
theorem X0 (os:Os) (started:os.Started) (H:Type) (enc:TypeId×Value→H):
  ReturnsInHanded {} Tryz.checked os 5 .any (Rows.wholeToldSpec.pre6 enc YU Tryz.f5 Rows.wholeToldRow.domain false) (Rows.wholeToldSpec.post enc YU Tryz.f5 false true false false):=by
 refine returnsInHanded_of_change (C:=Tryz.checked) XZ started (by kernel_rfl) Tryz.func5
  (ChangeSpec.witness6 (enc:=enc) (C:=Tryz.checked) false ⟨#[],#[.agg #[.int .i64 0,.int .i64 0,.int .i64 0,.int .i64 0,.int .i64 0,.int .i64 0,.int .i64 0,.int .i64 0,.int .i64 0,.int .i64 0,.int .i64 0,.int .i64 0,.int .i64 0,.int .i64 0,.int .i64 0,.bool false],.slice none 0 0],[]⟩ 8 (by kernel_rfl) (by kernel_rfl) (by kernel_rfl) (by kernel_rfl)) ?_
 intro W base args ds gs before hval0 hW hcnd _
 have hval: ∀(j:Nat) t v,Tryz.f5.params[j]? =some t→args[j]? =some v→Value.okWide YU W .any base t v:=hval0
 have hW':=hW
 obtain⟨p,q,hA0,hV,rfl,hfz,hnd⟩:=hW
 have hA:DataW.TrodAll enc YU W 0 (λ_=>true) true Tryz.f5.params.toList args.toList ds p:=hA0
 rw[Tryz.params5] at hA hval
 obtain⟨v0,vs0,d0,ds0,p0,q0,hargs,rfl,rfl,h0,r0⟩:=trodAll_cons hA
 obtain⟨v1,vs1,d1,ds1,p1,q1,rfl,rfl,rfl,h1,r1⟩:=trodAll_cons r0
 obtain⟨rfl,rfl,rfl⟩:=trodAll_nil r1
 obtain rfl:args=#[v0,v1]:=by cases args;simp_all
 obtain⟨rfl,rfl⟩:=trodVars_none hV
 have k0:=h0
 have lt0: ∀x∈p0,x.block<W.heap.size:=by obtain⟨m,hm⟩:=k0;exact DataW.trod_lt m _ _ _ hm
 obtain⟨cs0,rfl,hc0⟩:=YO 6 (ls:=E.cfLs) (by kernel_rfl) (YP Tryz.underlying31 rfl (hval 0 31 v0 rfl rfl)) h0
 obtain⟨za,zb,zc,zd,ze,zf,zg,zh,zi,zj,zk,zl,zm,zn,zo,zq,rfl⟩:=E.cells_cfg hc0
 obtain⟨AL,nL,cL,rfl⟩:=okWide_slice Tryz.underlying32 (hval 1 32 v1 rfl rfl)
 have k1:=h1
 have lt1: ∀x∈p1,x.block<W.heap.size:=by obtain⟨m,hm⟩:=k1;exact DataW.trod_lt m _ _ _ hm
 obtain⟨rows1,hl_L,hc1,hr_L,hq_L,_⟩:=YR 6 (ls:=E.stLs) (by kernel_rfl) (by kernel_rfl) (by decide) Tryz.underlying32 h1
 obtain⟨L,rfl,hx_L⟩:=E.rows_st rows1 hc1
 have hl_L:L.length=nL:=by rw[←hl_L,List.length_map]
 clear hA0 hval0
 refine(WholeTold_any za zb zc zd ze zf zg zh zi zj zk zl zm zn zo zq AL nL cL L hl_L hq_L hx_L W hr_L).mono λe W' ⟨he,bQ⟩=>?_
 subst he
 exact⟨_,rfl,_,_,_,[],_,[],hW',trodAll_mk1 (shut_bool Tryz.underlying4 _),(trodAll_cons_mk (Below.trod AS (by kernel_rfl) (of_decide_eq_true (by kernel_rfl)) k0 bQ lt0) (trodAll_cons_mk (Below.trod AS (by kernel_rfl) (of_decide_eq_true (by kernel_rfl)) k1 bQ lt1) trodAll_mk0)),rfl,bQ.frame _,λh=>by cases h⟩
theorem X1:(mapsRowed Tryz.checked.prog)=true:=by kernel_rfl
theorem X2:((Rows.wholeToldRow.inPlace==Tryz.checked.prog.inPlace 5))=true:=by kernel_rfl
theorem X3:((Rows.wholeToldRow.unfollowed==Tryz.checked.prog.unfollowed 5))=true:=by kernel_rfl
theorem X4:((Rows.wholeToldRow.recurses==Tryz.checked.prog.recurses 5))=true:=by kernel_rfl
theorem X5:((Rows.wholeToldRow.named==Tryz.checked.prog.varsNamed 5))=true:=by kernel_rfl
theorem X6:((Rows.wholeToldRow.plainKeys==Tryz.checked.prog.plainKeys))=true:=by kernel_rfl
theorem X7 {a b:Bool} (h:a=true) (g:b=true):(a&&b)=true:=by rw[h,g];rfl
theorem X8:joinedFacts Tryz.checked.prog 5 Tryz.f5 Rows.wholeToldSpec Rows.wholeToldRow=true:=by
 unfold joinedFacts
 repeat' (with_reducible first | exact AS | exact X1 | exact X2 | exact X3 | exact X4 | exact X5 | exact X6 | refine X7 ?_ ?_)
 all_goals kernel_rfl
theorem WholeTold_holds:Rows.WholeToldSaid:=
 OpenClaim.holds_of_wide 5 Tryz.f5 rfl rfl rfl rfl rfl rfl rfl ⟨rfl,rfl,rfl,rfl,rfl⟩ rfl rfl rfl rfl rfl (by kernel_rfl) Tryz.func5 X8
  (of_decide_eq_true (by kernel_rfl)) (by unfold Func.isWrapper;first | (rw[if_pos (by decide+kernel)];kernel_rfl) | (rw[if_neg (by decide+kernel)];exact⟨rfl,rfl⟩))
  (λos started H enc _=>X0 os started H enc)
end Go.Proofs.YtbcodenfkijdnaaGreat
