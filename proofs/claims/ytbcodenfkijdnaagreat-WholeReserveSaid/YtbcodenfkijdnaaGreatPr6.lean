/- WholeReserve, in 6 texts: part 6. For every input; no condition. -/
import Derived.Test.YtbcodenfkijdnaaGreatPr5
import Derived.WalkKit
import Derived.ProofKit
import Derived.OpenShut
import Derived.ShutString
import Derived.ChangeOld
import Derived.Below
set_option linter.unusedVariables false
set_option linter.unusedSimpArgs false
set_option maxRecDepth 100000
namespace Go.Proofs.YtbcodenfkijdnaaGreat
open Go.ChangeAt Go.ChangeShapes Go.RowKit Go.WideShapes
open Go.Proofs.Tryz renaming prog→VA
theorem U0:ownKnob Tryz.prog.godebug=none:=by kernel_rfl
theorem y2:laidOutB VA=true:=by kernel_rfl
set_option maxRecDepth 100000 in
theorem U1 (os:Os) (started:os.Started) (H:Type) (enc:TypeId×Value→H):
  ReturnsInHanded {} Tryz.checked os 4 .any (Rows.wholeReserveSpec.pre6 enc VA Tryz.f4 Rows.wholeReserveRow.domain false) (Rows.wholeReserveSpec.post enc VA Tryz.f4 false true false false):=by
 refine returnsInHanded_of_change (C:=Tryz.checked) U0 started (by kernel_rfl) Tryz.func4
  (ChangeSpec.witness6 (enc:=enc) (C:=Tryz.checked) false ⟨#[],#[.agg #[.int .i64 0,.int .i64 0,.int .i64 0,.int .i64 0,.int .i64 0,.int .i64 0,.int .i64 0,.int .i64 0,.int .i64 0,.int .i64 0,.int .i64 0,.int .i64 0,.int .i64 0,.int .i64 0,.int .i64 0,.bool false],.slice none 0 0],[]⟩ 8 (by kernel_rfl) (by kernel_rfl) (by kernel_rfl) (by kernel_rfl)) ?_
 intro W base args ds gs before hval0 hW hcnd _
 have hval: ∀(j:Nat) t v,Tryz.f4.params[j]? =some t→args[j]? =some v→Value.okWide VA W .any base t v:=hval0
 have hW':=hW
 obtain⟨p,q,hA0,hV,rfl,hfz,hnd⟩:=hW
 have hA:DataW.TrodAll enc VA W 0 (λ_=>true) true Tryz.f4.params.toList args.toList ds p:=hA0
 rw[Tryz.params4] at hA hval
 obtain⟨v0,vs0,d0,ds0,p0,q0,hargs,rfl,rfl,h0,r0⟩:=trodAll_cons hA
 obtain⟨v1,vs1,d1,ds1,p1,q1,rfl,rfl,rfl,h1,r1⟩:=trodAll_cons r0
 obtain⟨rfl,rfl,rfl⟩:=trodAll_nil r1
 obtain rfl:args=#[v0,v1]:=by cases args;simp_all
 obtain⟨rfl,rfl⟩:=trodVars_none hV
 have k0:=h0
 have lt0: ∀x∈p0,x.block<W.heap.size:=by obtain⟨m,hm⟩:=k0;exact DataW.trod_lt m _ _ _ hm
 obtain⟨cs0,rfl,hc0⟩:=Mg 6 (ls:=E.cfLs) (by kernel_rfl) (Mh Tryz.underlying31 rfl (hval 0 31 v0 rfl rfl)) h0
 obtain⟨za,zb,zc,zd,ze,zf,zg,zh,zi,zj,zk,zl,zm,zn,zo,zq,rfl⟩:=E.cells_cfg hc0
 obtain⟨AL,nL,cL,rfl⟩:=okWide_slice Tryz.underlying32 (hval 1 32 v1 rfl rfl)
 have k1:=h1
 have lt1: ∀x∈p1,x.block<W.heap.size:=by obtain⟨m,hm⟩:=k1;exact DataW.trod_lt m _ _ _ hm
 obtain⟨rows1,hl_L,hc1,hr_L,hq_L,_⟩:=Mj 6 (ls:=E.stLs) (by kernel_rfl) (by kernel_rfl) (by decide) Tryz.underlying32 h1
 obtain⟨L,rfl,hx_L⟩:=E.rows_st rows1 hc1
 have hl_L:L.length=nL:=by rw[←hl_L,List.length_map]
 clear hA0 hval0
 refine(WholeReserve_any za zb zc zd ze zf zg zh zi zj zk zl zm zn zo zq AL nL cL L hl_L hq_L hx_L W hr_L).mono λe W' ⟨he,bR⟩=>?_
 subst he
 exact⟨_,rfl,_,_,_,[],_,[],hW',trodAll_mk1 (shut_bool Tryz.underlying4 _),(trodAll_cons_mk (Below.trod y2 (by kernel_rfl) (of_decide_eq_true (by kernel_rfl)) k0 bR lt0) (trodAll_cons_mk (Below.trod y2 (by kernel_rfl) (of_decide_eq_true (by kernel_rfl)) k1 bR lt1) trodAll_mk0)),rfl,bR.frame _,λh=>by cases h⟩
theorem U2:(mapsRowed Tryz.checked.prog)=true:=by kernel_rfl
theorem U3:((Rows.wholeReserveRow.inPlace==Tryz.checked.prog.inPlace 4))=true:=by kernel_rfl
theorem U4:((Rows.wholeReserveRow.unfollowed==Tryz.checked.prog.unfollowed 4))=true:=by kernel_rfl
theorem U5:((Rows.wholeReserveRow.recurses==Tryz.checked.prog.recurses 4))=true:=by kernel_rfl
theorem U6:((Rows.wholeReserveRow.named==Tryz.checked.prog.varsNamed 4))=true:=by kernel_rfl
theorem U7:((Rows.wholeReserveRow.plainKeys==Tryz.checked.prog.plainKeys))=true:=by kernel_rfl
theorem U8 {a b:Bool} (h:a=true) (g:b=true):(a&&b)=true:=by rw[h,g];rfl
theorem U9:joinedFacts Tryz.checked.prog 4 Tryz.f4 Rows.wholeReserveSpec Rows.wholeReserveRow=true:=by
 unfold joinedFacts
 repeat' (with_reducible first | exact y2 | exact U2 | exact U3 | exact U4 | exact U5 | exact U6 | exact U7 | refine U8 ?_ ?_)
 all_goals kernel_rfl
theorem WholeReserve_holds:Rows.WholeReserveSaid:=
 OpenClaim.holds_of_wide 4 Tryz.f4 rfl rfl rfl rfl rfl rfl rfl ⟨rfl,rfl,rfl,rfl,rfl⟩ rfl rfl rfl rfl rfl (by kernel_rfl) Tryz.func4 U9
  (of_decide_eq_true (by kernel_rfl)) (by unfold Func.isWrapper;first | (rw[if_pos (by decide+kernel)];kernel_rfl) | (rw[if_neg (by decide+kernel)];exact⟨rfl,rfl⟩))
  (λos started H enc _=>U1 os started H enc)
end Go.Proofs.YtbcodenfkijdnaaGreat
