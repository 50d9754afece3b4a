/- WholeChip, in 7 texts: part 7. For every input; no condition. -/
import Derived.Test.YtbcodenfkijdnaaGreatPc6
import Derived.WalkKit
import Derived.ProofKit
import Derived.OpenShut
import Derived.ShutString
import Derived.ChangeOld
import Derived.Below
set_option linter.unusedVariables false
set_option linter.unusedSimpArgs false
set_option maxRecDepth 100000
namespace Go.Proofs.YtbcodenfkijdnaaGreat
open Go.ChangeAt Go.ChangeShapes Go.RowKit Go.WideShapes
open Go.Proofs.Tryz renaming prog→ZK
theorem Za:ownKnob Tryz.prog.godebug=none:=by kernel_rfl
theorem Bo:laidOutB ZK=true:=by kernel_rfl
set_option maxRecDepth 100000 in
theorem Zb (os:Os) (started:os.Started) (H:Type) (enc:TypeId×Value→H):
  ReturnsInHanded {} Tryz.checked os 8 .any (Rows.wholeChipSpec.pre6 enc ZK Tryz.f8 Rows.wholeChipRow.domain false) (Rows.wholeChipSpec.post enc ZK Tryz.f8 false true false false):=by
 refine returnsInHanded_of_change (C:=Tryz.checked) Za started (by kernel_rfl) Tryz.func8
  (ChangeSpec.witness6 (enc:=enc) (C:=Tryz.checked) false ⟨#[],#[.agg #[.int .i64 0,.int .i64 0,.int .i64 0,.int .i64 0,.int .i64 0,.int .i64 0,.int .i64 0,.int .i64 0,.int .i64 0,.int .i64 0,.int .i64 0,.int .i64 0,.int .i64 0,.int .i64 0,.int .i64 0,.bool false],.int .i64 0,.int .i64 0,.int .i64 0,.slice none 0 0],[]⟩ 8 (by kernel_rfl) (by kernel_rfl) (by kernel_rfl) (by kernel_rfl)) ?_
 intro W base args ds gs before hval0 hW hcnd _
 have hval: ∀(j:Nat) t v,Tryz.f8.params[j]? =some t→args[j]? =some v→Value.okWide ZK W .any base t v:=hval0
 have hW':=hW
 obtain⟨p,q,hA0,hV,rfl,hfz,hnd⟩:=hW
 have hA:DataW.TrodAll enc ZK W 0 (λ_=>true) true Tryz.f8.params.toList args.toList ds p:=hA0
 rw[Tryz.params8] at hA hval
 obtain⟨v0,vs0,d0,ds0,p0,q0,hargs,rfl,rfl,h0,r0⟩:=trodAll_cons hA
 obtain⟨v1,vs1,d1,ds1,p1,q1,rfl,rfl,rfl,h1,r1⟩:=trodAll_cons r0
 obtain⟨v2,vs2,d2,ds2,p2,q2,rfl,rfl,rfl,h2,r2⟩:=trodAll_cons r1
 obtain⟨v3,vs3,d3,ds3,p3,q3,rfl,rfl,rfl,h3,r3⟩:=trodAll_cons r2
 obtain⟨v4,vs4,d4,ds4,p4,q4,rfl,rfl,rfl,h4,r4⟩:=trodAll_cons r3
 obtain⟨rfl,rfl,rfl⟩:=trodAll_nil r4
 obtain rfl:args=#[v0,v1,v2,v3,v4]:=by cases args;simp_all
 obtain⟨rfl,rfl⟩:=trodVars_none hV
 have k0:=h0
 have lt0: ∀x∈p0,x.block<W.heap.size:=by obtain⟨m,hm⟩:=k0;exact DataW.trod_lt m _ _ _ hm
 obtain⟨cs0,rfl,hc0⟩:=Qo 6 (ls:=E.cfLs) (by kernel_rfl) (Qp Tryz.underlying31 rfl (hval 0 31 v0 rfl rfl)) h0
 obtain⟨za,zb,zc,zd,ze,zf,zg,zh,zi,zj,zk,zl,zm,zn,zo,zq,rfl⟩:=E.cells_cfg hc0
 obtain⟨rk,rfl,rfl,rfl,w1⟩:=open_int Tryz.underlying3 (hval 1 3 v1 rfl rfl) h1
 obtain⟨ch,rfl,rfl,rfl,w2⟩:=open_int Tryz.underlying3 (hval 2 3 v2 rfl rfl) h2
 obtain⟨vl,rfl,rfl,rfl,w3⟩:=open_int Tryz.underlying3 (hval 3 3 v3 rfl rfl) h3
 obtain⟨AL,nL,cL,rfl⟩:=okWide_slice Tryz.underlying32 (hval 4 32 v4 rfl rfl)
 have k4:=h4
 have lt4: ∀x∈p4,x.block<W.heap.size:=by obtain⟨m,hm⟩:=k4;exact DataW.trod_lt m _ _ _ hm
 obtain⟨rows4,hl_L,hc4,hr_L,hq_L,_⟩:=Qr 6 (ls:=E.stLs) (by kernel_rfl) (by kernel_rfl) (by decide) Tryz.underlying32 h4
 obtain⟨L,rfl,hx_L⟩:=E.rows_st rows4 hc4
 have hl_L:L.length=nL:=by rw[←hl_L,List.length_map]
 clear hA0 hval0
 refine(WholeChip_any za zb zc zd ze zf zg zh zi zj zk zl zm zn zo zq rk ch vl AL nL cL L hl_L hq_L hx_L W hr_L).mono λe W' ⟨he,bG⟩=>?_
 subst he
 exact⟨_,rfl,_,_,_,[],_,[],hW',trodAll_mk1 (shut_bool Tryz.underlying4 _),(trodAll_cons_mk (Below.trod Bo (by kernel_rfl) (of_decide_eq_true (by kernel_rfl)) k0 bG lt0) (trodAll_cons_mk (shut_int Tryz.underlying3 w1) (trodAll_cons_mk (shut_int Tryz.underlying3 w2) (trodAll_cons_mk (shut_int Tryz.underlying3 w3) (trodAll_cons_mk (Below.trod Bo (by kernel_rfl) (of_decide_eq_true (by kernel_rfl)) k4 bG lt4) trodAll_mk0))))),rfl,bG.frame _,λh=>by cases h⟩
theorem Zc:(mapsRowed Tryz.checked.prog)=true:=by kernel_rfl
theorem Zd:((Rows.wholeChipRow.inPlace==Tryz.checked.prog.inPlace 8))=true:=by kernel_rfl
theorem Ze:((Rows.wholeChipRow.unfollowed==Tryz.checked.prog.unfollowed 8))=true:=by kernel_rfl
theorem Zf:((Rows.wholeChipRow.recurses==Tryz.checked.prog.recurses 8))=true:=by kernel_rfl
theorem Zg:((Rows.wholeChipRow.named==Tryz.checked.prog.varsNamed 8))=true:=by kernel_rfl
theorem Zh:((Rows.wholeChipRow.plainKeys==Tryz.checked.prog.plainKeys))=true:=by kernel_rfl
theorem Zi {a b:Bool} (h:a=true) (g:b=true):(a&&b)=true:=by rw[h,g];rfl
theorem Zj:joinedFacts Tryz.checked.prog 8 Tryz.f8 Rows.wholeChipSpec Rows.wholeChipRow=true:=by
 unfold joinedFacts
 repeat' (with_reducible first | exact Bo | exact Zc | exact Zd | exact Ze | exact Zf | exact Zg | exact Zh | refine Zi ?_ ?_)
 all_goals kernel_rfl
theorem WholeChip_holds:Rows.WholeChipSaid:=
 OpenClaim.holds_of_wide 8 Tryz.f8 rfl rfl rfl rfl rfl rfl rfl ⟨rfl,rfl,rfl,rfl,rfl⟩ rfl rfl rfl rfl rfl (by kernel_rfl) Tryz.func8 Zj
  (of_decide_eq_true (by kernel_rfl)) (by unfold Func.isWrapper;first | (rw[if_pos (by decide+kernel)];kernel_rfl) | (rw[if_neg (by decide+kernel)];exact⟨rfl,rfl⟩))
  (λos started H enc _=>Zb os started H enc)
end Go.Proofs.YtbcodenfkijdnaaGreat
