/- WholeModes, in 7 texts: part 7. For every input; no condition. -/
import Derived.Test.YtbcodenfkijdnaaGreatPm6
import Derived.WalkKit
import Derived.ProofKit
import Derived.OpenShut
import Derived.ShutString
import Derived.ChangeOld
import Derived.Below
set_option linter.unusedVariables false
set_option linter.unusedSimpArgs false
set_option maxRecDepth 100000
namespace Go.Proofs.YtbcodenfkijdnaaGreat
open Go.ChangeAt Go.ChangeShapes Go.RowKit Go.WideShapes
open Go.Proofs.Tryz renaming prog→Zl
theorem YL:ownKnob Tryz.prog.godebug=none:=by kernel_rfl
theorem Bi:laidOutB Zl=true:=by kernel_rfl
set_option maxRecDepth 100000 in
theorem YM (os:Os) (started:os.Started) (H:Type) (enc:TypeId×Value→H):
  ReturnsInHanded {} Tryz.checked os 6 .any (Rows.wholeModesSpec.pre6 enc Zl Tryz.f6 Rows.wholeModesRow.domain false) (Rows.wholeModesSpec.post enc Zl Tryz.f6 false true false false):=by
 refine returnsInHanded_of_change (C:=Tryz.checked) YL started (by kernel_rfl) Tryz.func6
  (ChangeSpec.witness6 (enc:=enc) (C:=Tryz.checked) false ⟨#[],#[.agg #[.int .i64 0,.int .i64 0,.int .i64 0,.int .i64 0,.int .i64 0,.int .i64 0,.int .i64 0,.int .i64 0,.int .i64 0,.int .i64 0,.int .i64 0,.int .i64 0,.int .i64 0,.int .i64 0,.int .i64 0,.bool false],.slice none 0 0,.int .i64 0,.bool false],[]⟩ 8 (by kernel_rfl) (by kernel_rfl) (by kernel_rfl) (by kernel_rfl)) ?_
 intro W base args ds gs before hval0 hW hcnd _
 have hval: ∀(j:Nat) t v,Tryz.f6.params[j]? =some t→args[j]? =some v→Value.okWide Zl W .any base t v:=hval0
 have hW':=hW
 obtain⟨p,q,hA0,hV,rfl,hfz,hnd⟩:=hW
 have hA:DataW.TrodAll enc Zl W 0 (λ_=>true) true Tryz.f6.params.toList args.toList ds p:=hA0
 rw[Tryz.params6] at hA hval
 obtain⟨v0,vs0,d0,ds0,p0,q0,hargs,rfl,rfl,h0,r0⟩:=trodAll_cons hA
 obtain⟨v1,vs1,d1,ds1,p1,q1,rfl,rfl,rfl,h1,r1⟩:=trodAll_cons r0
 obtain⟨v2,vs2,d2,ds2,p2,q2,rfl,rfl,rfl,h2,r2⟩:=trodAll_cons r1
 obtain⟨v3,vs3,d3,ds3,p3,q3,rfl,rfl,rfl,h3,r3⟩:=trodAll_cons r2
 obtain⟨rfl,rfl,rfl⟩:=trodAll_nil r3
 obtain rfl:args=#[v0,v1,v2,v3]:=by cases args;simp_all
 obtain⟨rfl,rfl⟩:=trodVars_none hV
 have k0:=h0
 have lt0: ∀x∈p0,x.block<W.heap.size:=by obtain⟨m,hm⟩:=k0;exact DataW.trod_lt m _ _ _ hm
 obtain⟨cs0,rfl,hc0⟩:=Qh 6 (ls:=E.cfLs) (by kernel_rfl) (Qi Tryz.underlying31 rfl (hval 0 31 v0 rfl rfl)) h0
 obtain⟨za,zb,zc,zd,ze,zf,zg,zh,zi,zj,zk,zl,zm,zn,zo,zq,rfl⟩:=E.cells_cfg hc0
 obtain⟨AL,nL,cL,rfl⟩:=okWide_slice Tryz.underlying32 (hval 1 32 v1 rfl rfl)
 have k1:=h1
 have lt1: ∀x∈p1,x.block<W.heap.size:=by obtain⟨m,hm⟩:=k1;exact DataW.trod_lt m _ _ _ hm
 obtain⟨rows1,hl_L,hc1,hr_L,hq_L,_⟩:=Qk 6 (ls:=E.stLs) (by kernel_rfl) (by kernel_rfl) (by decide) Tryz.underlying32 h1
 obtain⟨L,rfl,hx_L⟩:=E.rows_st rows1 hc1
 have hl_L:L.length=nL:=by rw[←hl_L,List.length_map]
 obtain⟨wy,rfl,rfl,rfl,w2⟩:=open_int Tryz.underlying3 (hval 2 3 v2 rfl rfl) h2
 obtain⟨bk,rfl,rfl,rfl⟩:=open_bool Tryz.underlying4 (hval 3 4 v3 rfl rfl) h3
 clear hA0 hval0
 refine(WholeModes_any za zb zc zd ze zf zg zh zi zj zk zl zm zn zo zq AL nL cL L hl_L hq_L hx_L wy bk W hr_L).mono λe W' ⟨he,bL⟩=>?_
 subst he
 exact⟨_,rfl,_,_,_,[],_,[],hW',trodAll_mk1 (shut_bool Tryz.underlying4 _),(trodAll_cons_mk (Below.trod Bi (by kernel_rfl) (of_decide_eq_true (by kernel_rfl)) k0 bL lt0) (trodAll_cons_mk (Below.trod Bi (by kernel_rfl) (of_decide_eq_true (by kernel_rfl)) k1 bL lt1) (trodAll_cons_mk (shut_int Tryz.underlying3 w2) (trodAll_cons_mk (shut_bool Tryz.underlying4 _) trodAll_mk0)))),rfl,bL.frame _,λh=>by cases h⟩
theorem YN:(mapsRowed Tryz.checked.prog)=true:=by kernel_rfl
theorem YO:((Rows.wholeModesRow.inPlace==Tryz.checked.prog.inPlace 6))=true:=by kernel_rfl
theorem YP:((Rows.wholeModesRow.unfollowed==Tryz.checked.prog.unfollowed 6))=true:=by kernel_rfl
theorem YQ:((Rows.wholeModesRow.recurses==Tryz.checked.prog.recurses 6))=true:=by kernel_rfl
theorem YR:((Rows.wholeModesRow.named==Tryz.checked.prog.varsNamed 6))=true:=by kernel_rfl
theorem YS:((Rows.wholeModesRow.plainKeys==Tryz.checked.prog.plainKeys))=true:=by kernel_rfl
theorem YT {a b:Bool} (h:a=true) (g:b=true):(a&&b)=true:=by rw[h,g];rfl
theorem YU:joinedFacts Tryz.checked.prog 6 Tryz.f6 Rows.wholeModesSpec Rows.wholeModesRow=true:=by
 unfold joinedFacts
 repeat' (with_reducible first | exact Bi | exact YN | exact YO | exact YP | exact YQ | exact YR | exact YS | refine YT ?_ ?_)
 all_goals kernel_rfl
theorem WholeModes_holds:Rows.WholeModesSaid:=
 OpenClaim.holds_of_wide 6 Tryz.f6 rfl rfl rfl rfl rfl rfl rfl ⟨rfl,rfl,rfl,rfl,rfl⟩ rfl rfl rfl rfl rfl (by kernel_rfl) Tryz.func6 YU
  (of_decide_eq_true (by kernel_rfl)) (by unfold Func.isWrapper;first | (rw[if_pos (by decide+kernel)];kernel_rfl) | (rw[if_neg (by decide+kernel)];exact⟨rfl,rfl⟩))
  (λos started H enc _=>YM os started H enc)
end Go.Proofs.YtbcodenfkijdnaaGreat
