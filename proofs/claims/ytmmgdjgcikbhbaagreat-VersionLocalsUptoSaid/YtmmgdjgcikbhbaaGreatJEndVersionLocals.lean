/- The statement of VersionLocals, from its walk. -/
import Derived.Test.YtmmgdjgcikbhbaaGreatFctVersionLocals
import Derived.Test.YtmmgdjgcikbhbaaGreatGJc
import Derived.Test.YtmmgdjgcikbhbaaGreatGOh
import Derived.Test.YtmmgdjgcikbhbaaGreatRows
import Derived.Test.YtmmgdjgcikbhbaaGreatGVo
import Derived.Deep.DeepHandedRow
namespace Go.Proofs.YtmmgdjgcikbhbaaGreat
set_option linter.unusedSimpArgs false
set_option linter.unusedVariables false
open Go.ChangeShapes Go.WideShapes Go.ChangeAt Go.RowKit
open Go.ChangeMaps (open_string shut_string)
theorem Zz2g (os:Os) {H:Type} (enc:TypeId × Value→H):∃ places,DataW.whole enc Tryz.prog ((World.holding Tryz.prog os ⟨#[],#[],[]⟩).forCall (fun _ _=>0) ⟨#[],#[.agg #[.string ⟨#[]⟩,.int .i64 0,.int .i64 0,.string ⟨#[]⟩,.slice none 0 0,.slice none 0 0,.int .i64 0,.string ⟨#[]⟩,.int .i64 0],.agg #[.string ⟨#[]⟩,.int .i64 0,.int .i64 0,.string ⟨#[]⟩,.slice none 0 0,.slice none 0 0,.int .i64 0,.string ⟨#[]⟩,.int .i64 0],.agg #[.int .i64 0,.int .i64 0],.agg #[.int .i64 0,.int .i64 0]],[]⟩).memory Tryz.f4.params.toList Rows.versionLocalsSpec.vars false (#[.agg #[.string ⟨#[]⟩,.int .i64 0,.int .i64 0,.string ⟨#[]⟩,.slice none 0 0,.slice none 0 0,.int .i64 0,.string ⟨#[]⟩,.int .i64 0],.agg #[.string ⟨#[]⟩,.int .i64 0,.int .i64 0,.string ⟨#[]⟩,.slice none 0 0,.slice none 0 0,.int .i64 0,.string ⟨#[]⟩,.int .i64 0],.agg #[.int .i64 0,.int .i64 0],.agg #[.int .i64 0,.int .i64 0]]:Array Value).toList 8=some ([.agg [.lit (.string []),.agg [.lit (.int .i64 0),.lit (.int .i64 0),.lit (.string [])],.nil,.nil,.lit (.int .i64 0),.lit (.string []),.lit (.int .i64 0)],.agg [.lit (.string []),.agg [.lit (.int .i64 0),.lit (.int .i64 0),.lit (.string [])],.nil,.nil,.lit (.int .i64 0),.lit (.string []),.lit (.int .i64 0)],.agg [.lit (.int .i64 0),.lit (.int .i64 0)],.agg [.lit (.int .i64 0),.lit (.int .i64 0)]],[],places) :=
 ⟨[],by kernel_rfl⟩
set_option maxRecDepth 100000 in
theorem Zz1Z (os:Os) (started:os.Started) (H:Type) (enc:TypeId × Value→H) (F:Stop.Interp) :
  ReturnsInHanded {} Tryz.checked os 4 .any ((Rows.OpenSpec.upto Rows.versionLocalsSpec).preRow enc Tryz.prog Tryz.f4 Rows.versionLocalsUptoRow.domain false Rows.versionLocalsUptoRow.laid) (((Rows.OpenSpec.upto Rows.versionLocalsSpec).at F).post enc Tryz.prog Tryz.f4 false true false false):=by
 obtain ⟨places,hx⟩:=Zz2g os enc
 refine returnsInHanded_of_row (C:=Tryz.checked) (s:=Rows.OpenSpec.upto Rows.versionLocalsSpec) own started (by kernel_rfl) Tryz.func4
  (witness_row_at (enc:=enc) (C:=Tryz.checked) false (World.holding Tryz.prog os ⟨#[],#[],[]⟩) #[.agg #[.string ⟨#[]⟩,.int .i64 0,.int .i64 0,.string ⟨#[]⟩,.slice none 0 0,.slice none 0 0,.int .i64 0,.string ⟨#[]⟩,.int .i64 0],.agg #[.string ⟨#[]⟩,.int .i64 0,.int .i64 0,.string ⟨#[]⟩,.slice none 0 0,.slice none 0 0,.int .i64 0,.string ⟨#[]⟩,.int .i64 0],.agg #[.int .i64 0,.int .i64 0],.agg #[.int .i64 0,.int .i64 0]] rfl (by kernel_rfl) (by kernel_rfl) (by kernel_rfl)
   (OpenSpec.preRow_of_cond 8 hx (by kernel_rfl) (fun k hk=>by cases hk;kernel_rfl) (by kernel_rfl) (laidMetH_nil _ _))) ?_
 intro W base args ds gs before hval0 hW _ hcond _ _ hsh _
 have hbulk:=hcond _ rfl
 have hval:∀ (j:Nat) t v,Tryz.f4.params[j]? = some t→args[j]? = some v→Value.okWide Tryz.prog W .any base t v:=hval0
 have hW':=hW
 obtain ⟨p,q,hA0,hV,rfl,hfz,hnd⟩:=hW
 have hA:DataW.TrodAll enc Tryz.prog W 0 (fun _=>true) true Tryz.f4.params.toList args.toList ds p:=hA0
 rw [Tryz.params4] at hA hval
 obtain ⟨v0,vs0,d0,ds0,p0,q0,hargs,rfl,rfl,h0,r0⟩:=trodAll_cons hA
 obtain ⟨v1,vs1,d1,ds1,p1,q1,rfl,rfl,rfl,h1,r1⟩:=trodAll_cons r0
 obtain ⟨v2,vs2,d2,ds2,p2,q2,rfl,rfl,rfl,h2,r2⟩:=trodAll_cons r1
 obtain ⟨v3,vs3,d3,ds3,p3,q3,rfl,rfl,rfl,h3,r3⟩:=trodAll_cons r2
 obtain ⟨rfl,rfl,rfl⟩:=trodAll_nil r3
 obtain rfl:args=#[v0,v1,v2,v3]:=by cases args;simp_all
 obtain ⟨rfl,rfl⟩:=trodVars_none hV
 have k0:=h0
 have lt0:∀ x∈p0,x.block<W.heap.size:=by obtain ⟨m,hm⟩:=k0;exact DataW.trod_lt m _ _ _ hm
 obtain ⟨cs0,rfl,_⟩:=okWide_struct Tryz.underlying27 (hval 0 27 v0 rfl rfl)
 obtain ⟨a0,vT0,vR0,e0,hT0,hR0⟩:=tr_zone (by simpa [Value.cells] using Tr.of h0:Tr Tryz.prog W 27 cs0.toList)
 have e0':(.agg cs0:Value)=a0.v vT0 vR0:=by simpa using e0
 rw [e0'] at h0 hW' ⊢
 have k0:=h0
 have hf0:a0.form.size≤2000000:=by have h1:=Zz75 k0;have h2:=bulk_le hbulk (d:=d0) (by simp);omega
 have k1:=h1
 have lt1:∀ x∈p1,x.block<W.heap.size:=by obtain ⟨m,hm⟩:=k1;exact DataW.trod_lt m _ _ _ hm
 obtain ⟨cs1,rfl,_⟩:=okWide_struct Tryz.underlying27 (hval 1 27 v1 rfl rfl)
 obtain ⟨a1,vT1,vR1,e1,hT1,hR1⟩:=tr_zone (by simpa [Value.cells] using Tr.of h1:Tr Tryz.prog W 27 cs1.toList)
 have e1':(.agg cs1:Value)=a1.v vT1 vR1:=by simpa using e1
 rw [e1'] at h1 hW' ⊢
 have k1:=h1
 have hf1:a1.form.size≤2000000:=by have h1:=Zz75 k1;have h2:=bulk_le hbulk (d:=d1) (by simp);omega
 have k2:=h2
 have lt2:∀ x∈p2,x.block<W.heap.size:=by obtain ⟨m,hm⟩:=k2;exact DataW.trod_lt m _ _ _ hm
 obtain ⟨cs2,rfl,_⟩:=okWide_struct Tryz.underlying29 (hval 2 29 v2 rfl rfl)
 obtain ⟨a2f,a2t,e2⟩:=tr_span (by simpa [Value.cells] using Tr.of h2:Tr Tryz.prog W 29 cs2.toList)
 obtain rfl:cs2=#[.int .i64 a2f,.int .i64 a2t]:=by rw [←Array.toArray_toList (xs:=cs2),e2]
 have k3:=h3
 have lt3:∀ x∈p3,x.block<W.heap.size:=by obtain ⟨m,hm⟩:=k3;exact DataW.trod_lt m _ _ _ hm
 obtain ⟨cs3,rfl,_⟩:=okWide_struct Tryz.underlying44 (hval 3 44 v3 rfl rfl)
 obtain ⟨a3f,a3t,e3⟩:=tr_policy (by simpa [Value.cells] using Tr.of h3:Tr Tryz.prog W 44 cs3.toList)
 obtain rfl:cs3=#[.int .i64 a3f,.int .i64 a3t]:=by rw [←Array.toArray_toList (xs:=cs3),e3]
 clear hA0 hval0
 refine (law_VersionLocals a0 _ _ a1 _ _ a2f a2t a3f a3t W hf0 hf1 hT0 hR0 hT1 hR1 (hasMax_of hsh)).mono fun e W' ⟨he,bel⟩=>?_
 subst he
 exact ⟨_,rfl,_,_,_,[],_,[],hW',trodAll_mk1 (shut_bool Tryz.underlying4 _),(trodAll_cons_mk (Below.trod laidOut (by kernel_rfl) (of_decide_eq_true (by kernel_rfl)) k0 bel lt0) (trodAll_cons_mk (Below.trod laidOut (by kernel_rfl) (of_decide_eq_true (by kernel_rfl)) k1 bel lt1) (trodAll_cons_mk (Below.trod laidOut (by kernel_rfl) (of_decide_eq_true (by kernel_rfl)) k2 bel lt2) (trodAll_cons_mk (Below.trod laidOut (by kernel_rfl) (of_decide_eq_true (by kernel_rfl)) k3 bel lt3) trodAll_mk0)))),rfl,bel.frame _,fun h=>by cases h⟩
theorem proved_VersionLocals:Rows.VersionLocalsUptoSaid :=
 OpenClaim.holds_of_cond 4 Tryz.f4 rfl rfl rfl rfl rfl rfl rfl ⟨rfl,rfl,rfl,rfl,rfl⟩ rfl rfl rfl rfl rfl (by kernel_rfl) Tryz.func4 closed_VersionLocals
  (of_decide_eq_true (by kernel_rfl)) (by unfold Func.isWrapper;first|(rw [if_pos (by decide +kernel)];kernel_rfl)|(rw [if_neg (by decide +kernel)];exact ⟨rfl,rfl⟩))
  (fun os started H enc _ F=>by rw [OpenClaim.pre_eq_preRow];exact Zz1Z os started H enc F)
#print axioms proved_VersionLocals
end Go.Proofs.YtmmgdjgcikbhbaaGreat
