/- Joined by merge.py: LocW7, LocW8, LocW9, Rnd. -/
import Derived.Test.YtmmgdjgcikbhbaaGreatGLa
/- local.skips. Printed by gen_locw7.py. -/
open Go.Value renaming int → B, string → E, slice → G
open Go.IntKind renaming i64 → C
open Option renaming none → H
open Go.Obj renaming cells → I
open Go.Ending renaming returned → M
namespace Go.Proofs.YtmmgdjgcikbhbaaGreat
set_option linter.unusedSimpArgs false
set_option linter.unusedVariables false
open Go.RowKit Go.Shelf Go.ChangeShapes Go.WideShapes Go.ChangeAt
attribute [local go_sem] Oper.semAt_some
def Skip.cells (x:Skip):List Value:=[B C x.at_,B C x.bef,B C x.aft]
theorem skip_len (x:Skip):(Skip.cells x).length=3:=rfl
def stS:Int→Bool→List Piece→Int × Bool
 | b,f,[]=>(b,f)
 | _,_,p :: ps=>stS p.off false ps
theorem stS_snoc:∀ (b:Int) (f:Bool) (ps:List Piece) (p:Piece),stS b f (ps++[p])=(p.off,false)
 | b,f,[],p=>rfl
 | b,f,q :: ps,p=>stS_snoc q.off false ps p
theorem Zz3M:∀ (b:Int) (f:Bool) (ps:List Piece) (p:Piece),skipsF b f (ps++[p])=skipsF b f ps++(if (stS b f ps).2=false∧(stS b f ps).1<p.off then [⟨p.fr,(stS b f ps).1,p.off⟩] else [])
 | b,f,[],p=>by
  rw [List.nil_append,skipsF,skipsF,stS]
  simp [skipsF]
 | b,f,q :: ps,p=>by
  rw [List.cons_append,skipsF,skipsF,Zz3M q.off false ps p,stS]
  split <;> simp
theorem Zz3g:∀ (b:Int) (f:Bool) (ps:List Piece),(skipsF b f ps).length≤ps.length
 | b,f,[]=>by simp [skipsF]
 | b,f,q :: ps=>by
  rw [skipsF]
  have:=Zz3g q.off false ps
  split <;> simp <;> omega
theorem Zz21 {W WA w1:World} {Bo q base:Nat} {t' e:TypeId} {size:Nat} {v v':Value} {k:Nat} {xs:List Value} {cs:Array Value}
  (hq:Blk W q cs t') (hrow:W.ownsRow base e size v k xs) (hte:t'≠e) (hne:q≠Bo) (hA:Below W.heap.size W WA) (hgrow:WA.grownBy w1 v.ownBlock):Blk (w1.setCell ⟨Bo,0,H⟩ v') q cs t' :=
 ((hq.below hA hq.lt).kept hgrow (Zz1v hq hte hrow).symm).other hne v'
def SkI (Bo Bb Bf base:Nat) (pre:List Piece) (W:World):Prop:=BoxRow W Bo 112 114 3 base (skipsF 0 true pre).length ((skipsF 0 true pre).flatMap Skip.cells)∧Blk W Bb #[B C (stS 0 true pre).1] 3∧Blk W Bf #[.bool (stS 0 true pre).2] 4
theorem skI_own (D Bo Bb Bf base:Nat):OwnT 23 D (SkI Bo Bb Bf base):=OwnT.and (Zz3z _ _ (by decide) (by decide)) (OwnT.and (Zz2U _ (by decide)) (Zz2U _ (by decide)))
theorem info_skip:(Tryz.prog.info? 114).map (fun i=>(i.zero,i.size,i.bytes))=some (some (.agg #[B C 0,B C 0,B C 0]),3,24):=by kernel_rfl
set_option maxRecDepth 100000 in
set_option maxHeartbeats 4000000 in
theorem skips_any (z:Zn) (vT vR:Value) (a b:Int) (w:World) (hm:HasMax w) (hT:Rd Trn.cells 4 w vT z.table) (hR:Rd Rule.cells 11 w vR z.tail) (hfs:z.form.size<4294967281) (hll:z.tail.length≤12) (hM:Mild z a b) :
  Calls Tryz.prog 74 #[z.v vT vR,.agg #[B C a,B C b]] w fun e w'=>∃ v,e=M v∧w'.ownsRow w.heap.size 114 3 v (z.skips a b).length ((z.skips a b).flatMap Skip.cells)∧Below w.heap.size w w':=by
 have HST:=Hh (fun Bi Bz W (hb:Below w.heap.size w W) hz hi=>Zz3c 4 (by omega) Bi Bz z vT vR a b W hM hll hfs (hm.on hb) (hT.on hb) (hR.on hb) hz hi)
 have HOK:=Hh (show z.skips a b=skipsF 0 true (z.pieces a b) from rfl)
 have HLN:=Hh (Zz28 hM)
 obtain ⟨AT,cT,rfl⟩:=Zzb hT
 obtain ⟨AR,cR,rfl⟩:=Zzb hR
 have HPC:=Hh (fun W=>Zz4T z AT AR z.table.length z.tail.length cT cR a b W)
 unfold PcEnd at HPC
 clear hT hR hm hM
 generalize z.skips a b=SL at *
 generalize hPP:z.pieces a b=PL at *
 unfold Zn.v at HPC ⊢
 refine (callsIn_wide (n:=5)).1 ?_
 refine callsIn_of_wp_marks Tryz.func74 rfl trivial ?_ rfl
 simp only [Tryz.ntmps74,List.size_toArray,List.length_cons,List.length_nil,Nat.reduceAdd,Nat.reduceSub,Array.replicate_succ,Array.replicate_zero,List.push_toArray,List.append_toArray,List.nil_append,List.cons_append]
 have b0:=Blk.new w #[E z.nm,B C z.first.off,B C z.first.sv,E z.first.nm,G AT z.table.length cT,G AR z.tail.length cR,B C z.off,E z.form,B C z.year] 27
 have b1:=Blk.new (w.alloc (I #[E z.nm,B C z.first.off,B C z.first.sv,E z.first.nm,G AT z.table.length cT,G AR z.tail.length cR,B C z.off,E z.form,B C z.year] 27)) #[B C a,B C b] 29
 have b2:=Blk.new ((w.alloc (I #[E z.nm,B C z.first.off,B C z.first.sv,E z.first.nm,G AT z.table.length cT,G AR z.tail.length cR,B C z.off,E z.form,B C z.year] 27)).alloc (I #[B C a,B C b] 29)) #[G none 0 0] 112
 have b3:=Blk.new (((w.alloc (I #[E z.nm,B C z.first.off,B C z.first.sv,E z.first.nm,G AT z.table.length cT,G AR z.tail.length cR,B C z.off,E z.form,B C z.year] 27)).alloc (I #[B C a,B C b] 29)).alloc (I #[G none 0 0] 112)) #[B C 0] 3
 have b4:=Blk.new ((((w.alloc (I #[E z.nm,B C z.first.off,B C z.first.sv,E z.first.nm,G AT z.table.length cT,G AR z.tail.length cR,B C z.off,E z.form,B C z.year] 27)).alloc (I #[B C a,B C b] 29)).alloc (I #[G none 0 0] 112)).alloc (I #[B C 0] 3)) #[.bool true] 4
 have hB2:Below w.heap.size w (((((w.alloc (I #[E z.nm,B C z.first.off,B C z.first.sv,E z.first.nm,G AT z.table.length cT,G AR z.tail.length cR,B C z.off,E z.form,B C z.year] 27)).alloc (I #[B C a,B C b] 29)).alloc (I #[G none 0 0] 112)).alloc (I #[B C 0] 3)).alloc (I #[.bool true] 4)):=((((bLR.alloc nlR _).alloc (by simp) _).alloc (by simp;omega) _).alloc (by simp;omega) _).alloc (by simp;omega) _
 have hsz2:w.heap.size+1+1+1+1<(((((w.alloc (I #[E z.nm,B C z.first.off,B C z.first.sv,E z.first.nm,G AT z.table.length cT,G AR z.tail.length cR,B C z.off,E z.form,B C z.year] 27)).alloc (I #[B C a,B C b] 29)).alloc (I #[G none 0 0] 112)).alloc (I #[B C 0] 3)).alloc (I #[.bool true] 4)).heap.size:=by simp
 simp only [World.size_alloc] at b1 b2 b3 b4
 have b0:=(((b0.alloc (I #[B C a,B C b] 29)).alloc (I #[G none 0 0] 112)).alloc (I #[B C 0] 3)).alloc (I #[.bool true] 4)
 have b1:=((b1.alloc (I #[G none 0 0] 112)).alloc (I #[B C 0] 3)).alloc (I #[.bool true] 4)
 have b2:=(b2.alloc (I #[B C 0] 3)).alloc (I #[.bool true] 4)
 have b3:=b3.alloc (I #[.bool true] 4)
 gi_wp2_with fail
 generalize (((((w.alloc (I #[E z.nm,B C z.first.off,B C z.first.sv,E z.first.nm,G AT z.table.length cT,G AR z.tail.length cR,B C z.off,E z.form,B C z.year] 27)).alloc (I #[B C a,B C b] 29)).alloc (I #[G none 0 0] 112)).alloc (I #[B C 0] 3)).alloc (I #[.bool true] 4))=W2 at *
 have z0:=b0.cl 0 _ rfl
 have z1:=b0.cl 1 _ rfl
 have z2:=b0.cl 2 _ rfl
 have z3:=b0.cl 3 _ rfl
 have z4:=b0.cl 4 _ rfl
 have z5:=b0.cl 5 _ rfl
 have z6:=b0.cl 6 _ rfl
 have z7:=b0.cl 7 _ rfl
 have z8:=b0.cl 8 _ rfl
 have i0:=b1.cl 0 _ rfl
 have i1:=b1.cl 1 _ rfl
 have hsz0:w.heap.size<W2.heap.size:=by omega
 gi_wp2_with (refine ⟨trivial,?_⟩;gi_at_call 105;refine (callsIn_wide.2 (HPC.out W2)).mono ?_;rintro e w8 ⟨Bi,Bz,rfl,hzB,hiB,hBi0,K8⟩)
 have hB8:Below w.heap.size w w8:=hB2.trans (K8.mono (Nat.le_of_lt hsz0))
 have c2:=b2.below K8 b2.lt
 have c3:=b3.below K8 b3.lt
 have c4:=b4.below K8 b4.lt
 have hs8:=K8.size
 have hBi1:=hiB.lt
 have hBi2:w.heap.size+1+1+1+1<Bi:=by omega
 have HSS:=Hh (HST.out Bi Bz w8 hB8 hzB hiB)
 clear z0 z1 z2 z3 z4 z5 z6 z7 z8 i0 i1 b0 b1 b2 b3 b4 HPC HST K8 hB2
 obtain ⟨i0,hi0,hz0,hz1,hz2⟩:=info_parts info_skip
 refine Zz3j (T:=23) rfl (by omega) (gf:=165) (lb:=#[.pointer (some ⟨Bi,0,H⟩),.pointer (some ⟨Bz,0,H⟩)]) rfl trivial (enters_of Tryz.func165 (by kernel_rfl) rfl)
  HSS.out (fun h k=>h.trans k) (fun W l o o' _ h hc=>kpP_b W l o o' h hc) bLR (fun _=>rfl)
  (fun pre W=>SkI (w.heap.size+1+1) (w.heap.size+1+1+1) (w.heap.size+1+1+1+1) w8.heap.size pre W∧Below w.heap.size w W∧w8.heap.size≤W.heap.size)
  (fun _ _ _=>False)
  (OwnT.and (skI_own _ _ _ _ _) (OwnT.and (Zz4N (by omega) (by omega)) (Zz6M _ _ _)))
  (fun _=>fun _ _ _ _ h _ _=>h)
  ⟨⟨⟨_,c2,World.ownsRow_nil _ _ _ _⟩,c3,c4⟩,hB8,Nat.le_refl _⟩
  (fun x a' W=>∃ Bx,w.heap.size+1+1+1+1<Bx∧Blk W Bx #[B C x.fr,B C x.to] 29∧a' = { tmps:=#[.agg #[E z.nm,B C z.first.off,B C z.first.sv,E z.first.nm,G AT z.table.length cT,G AR z.tail.length cR,B C z.off,E z.form,B C z.year],.agg #[B C a,B C b],.pointer (some ⟨w.heap.size,0,H⟩),.pointer (some ⟨w.heap.size+1,0,H⟩),G none 0 0,.pointer (some ⟨w.heap.size+1+1,0,H⟩),.pointer (some ⟨w.heap.size+1+1+1,0,H⟩),.pointer (some ⟨w.heap.size+1+1+1+1,0,H⟩),.pointer (some ⟨Bx,0,H⟩),B C x.off,.agg #[E z.nm,B C z.first.off,B C z.first.sv,E z.first.nm,G AT z.table.length cT,G AR z.tail.length cR,B C z.off,E z.form,B C z.year],.agg #[B C a,B C b],.func (.func 165) #[] #[.pointer (some ⟨Bi,0,H⟩),.pointer (some ⟨Bz,0,H⟩)],.agg #[B C x.fr,B C x.to],B C x.off,undef,undef,undef,undef,undef,undef,undef,undef,undef,undef,undef,undef,undef,undef,undef,undef,undef],defers:=[] })
  (fun x a'=>ownT_ex fun Bx=>OwnT.and (Zz2M _ _ _) (OwnT.and (Zz2U _ (by decide)) (Zz2M _ _ _))) ?assign ?body ?done ?stop
 case assign =>
  rintro l1 pre x W K ⟨hi,hb,hW8⟩ hK
  unfold encP
  gi_wp2
  exact hK _ _ ((KeepsOthers.alloc _ _).from _) ((KpP.refl _ _).alloc _) ⟨skI_own 0 _ _ _ _ pre W _ none hi (World.grownBy_alloc W _ none) (fun r e=>by cases e),hb.alloc hb.size _,(by simp;omega)⟩ ⟨W.heap.size,(by omega),Blk.new W _ _,rfl⟩
 case body =>
  rintro l1 pre x a' W ⟨⟨⟨v,hv,hr⟩,hbb,hbf⟩,hb,hW8⟩ ⟨Bx,hBx,bX,rfl⟩ hlt
  obtain ⟨A,c,rfl⟩:=Zzh hr
  have x0:=bX.cl 0 _ rfl
  have x1:=bX.cl 1 _ rfl
  have v0:=hv.cl 0 _ rfl
  have vf:=hv.frozen 0
  have bb0:=hbb.cl 0 _ rfl
  have bbf:=hbb.frozen 0
  have bf0:=hbf.cl 0 _ rfl
  have bff:=hbf.frozen 0
  have hln:=Zz3g 0 true pre
  have hL:=HLN.out
  have HSN:=Hh (Zz3M 0 true pre x)
  have HSS:=Hh (stS_snoc 0 true pre x)
  have hend:∀ W9:World,Blk W9 (w.heap.size+1+1+1) #[B C (stS 0 true pre).1] 3→Blk W9 (w.heap.size+1+1+1+1) #[.bool (stS 0 true pre).2] 4→KeepsOthers W W9→KpP Bi W W9→Below (w.heap.size+1+1) W W9 →
    (∀ u,W9.ownsRow w8.heap.size 114 3 u (skipsF 0 true (pre++[x])).length ((skipsF 0 true (pre++[x])).flatMap Skip.cells)→Blk W9 (w.heap.size+1+1) #[u] 112 →
     KeepsFrom w8.heap.size W ((W9.setCell ⟨w.heap.size+1+1+1,0,H⟩ (B C x.off)).setCell ⟨w.heap.size+1+1+1+1,0,H⟩ (.bool false))∧KpP Bi W ((W9.setCell ⟨w.heap.size+1+1+1,0,H⟩ (B C x.off)).setCell ⟨w.heap.size+1+1+1+1,0,H⟩ (.bool false)) ∧
     (SkI (w.heap.size+1+1) (w.heap.size+1+1+1) (w.heap.size+1+1+1+1) w8.heap.size (pre++[x]) ((W9.setCell ⟨w.heap.size+1+1+1,0,H⟩ (B C x.off)).setCell ⟨w.heap.size+1+1+1+1,0,H⟩ (.bool false))∧Below w.heap.size w ((W9.setCell ⟨w.heap.size+1+1+1,0,H⟩ (B C x.off)).setCell ⟨w.heap.size+1+1+1+1,0,H⟩ (.bool false))∧w8.heap.size≤((W9.setCell ⟨w.heap.size+1+1+1,0,H⟩ (B C x.off)).setCell ⟨w.heap.size+1+1+1+1,0,H⟩ (.bool false)).heap.size)):=by
   intro W9 h3 h4 hk hp hbl u hu h2
   have g3:Blk (W9.setCell ⟨w.heap.size+1+1+1,0,H⟩ (B C x.off)) (w.heap.size+1+1+1) #[B C x.off] 3:=Boxed.set _ h3
   have g4:=h4.other (B':=w.heap.size+1+1+1) (i:=0) (by omega) (B C x.off)
   have g2:=h2.other (B':=w.heap.size+1+1+1) (i:=0) (by omega) (B C x.off)
   have k3:=g3.other (B':=w.heap.size+1+1+1+1) (i:=0) (by omega) (.bool false)
   have k4:Blk ((W9.setCell ⟨w.heap.size+1+1+1,0,H⟩ (B C x.off)).setCell ⟨w.heap.size+1+1+1+1,0,H⟩ (.bool false)) (w.heap.size+1+1+1+1) #[.bool false] 4:=Boxed.set _ g4
   have k2:=g2.other (B':=w.heap.size+1+1+1+1) (i:=0) (by omega) (.bool false)
   have o1:=hu.kept (grownBy_setCell' W9 (w.heap.size+1+1+1) (B C x.off)) (.inr (Zz1v h3 (by decide) hu))
   have o2:=o1.kept (grownBy_setCell' _ (w.heap.size+1+1+1+1) (.bool false)) (.inr (Zz1v g4 (by decide) o1))
   have hbl2:=(hbl.setCell (p:=⟨w.heap.size+1+1+1,0,H⟩) (show w.heap.size+1+1≤w.heap.size+1+1+1 by omega) (B C x.off)).setCell (p:=⟨w.heap.size+1+1+1+1,0,H⟩) (show w.heap.size+1+1≤w.heap.size+1+1+1+1 by omega) (.bool false)
   refine ⟨((hk.trans (KeepsOthers.setCell _ _ _)).trans (KeepsOthers.setCell _ _ _)).from _,(hp.set h3 (by omega) (by decide) (by decide) 0 _).set g4 (by omega) (by decide) (by decide) 0 _,⟨⟨u,k2,o2⟩,?_,?_⟩,hb.trans (hbl2.mono (by omega)),nLt hW8 hbl2.size⟩
   ·rw [HSS.out];exact k3
   rw [HSS.out];exact k4
  have HEND:=Hh hend
  clear hend
  cases hf:(stS 0 true pre).2
  ·rw [hf] at bf0 HSN
   generalize hbo:(stS 0 true pre).1=bo at *
   by_cases hc:bo<x.off
   ·have dc:decide (bo<x.off)=true:=dTt hc
    gi_wp2_with (gi_at_builtin;go_loud (refine wpListIn_append_own _ rfl _ _ 112 rfl w8.heap.size 114 i0 _ 3 24 Tryz.underlying112 hi0 hz0 hz1 hz2 rfl (by decide) _ _ _ rfl (Zz8 hr ((Below.refl W.heap.size W).alloc nlR (I #[B C x.fr,B C bo,B C x.off] 114))) ⟨W.heap.size,0,H⟩ 1 1 [B C x.fr,B C bo,B C x.off] rfl rfl (ZzS W _ [B C x.fr,B C bo,B C x.off]) (by simp [Value.oneCell']) (by simp only [maxLen];omega) (by omega) (by simp;omega) ?_;intro v' w1 hown' hgrow _;obtain ⟨hv1,hv2,hr2,hk2,hp2,hb2⟩:=appended hv hr (by decide) (by decide) (by decide) (by decide) (by decide) (by omega) hBi1 nlR (by omega) (by omega) ((Below.refl W.heap.size W).alloc nlR _) hown' hgrow;have q3:=Zz21 (v':=v') hbb hr (by decide) (show w.heap.size+1+1+1≠w.heap.size+1+1 by omega) ((Below.refl W.heap.size W).alloc nlR _) hgrow;have q4:=Zz21 (v':=v') hbf hr (by decide) (show w.heap.size+1+1+1+1≠w.heap.size+1+1 by omega) ((Below.refl W.heap.size W).alloc nlR _) hgrow;obtain ⟨g',cap',rfl⟩:=ownsRow_succ hown';have hc1:=hv1.cl 0 _ rfl;have hf1:=hv1.frozen 0;have q30:=q3.cl 0 _ rfl;have q3f:=q3.frozen 0;have q40:=q4.cl 0 _ rfl;have q4f:=q4.frozen 0))
    refine HEND.out _ q3 q4 hk2 hp2 hb2 _ ?_ hv2
    rw [HSN.out,if_pos (by simpa using hc),List.length_append,List.flatMap_append]
    exact hr2
   have dc:decide (bo<x.off)=false:=dFf hc
   gi_wp2
   refine HEND.out _ hbb hbf (KeepsOthers.refl _) (KpP.refl _ _) bLR _ ?_ hv
   rw [HSN.out,if_neg (by simp;omega),List.append_nil]
   exact hr
  rw [hf] at bf0 HSN
  gi_wp2
  refine HEND.out _ hbb hbf (KeepsOthers.refl _) (KpP.refl _ _) bLR _ ?_ hv
  rw [HSN.out,if_neg (by simp),List.append_nil]
  exact hr
 case done =>
  rintro D ys W hD hys ⟨⟨⟨v,hv,hr⟩,_⟩,hb,_⟩ hK
  subst hys
  obtain ⟨A,c,rfl⟩:=Zzh hr
  have v0:=hv.cl 0 _ rfl
  have HR:=Hh (Zz48 (ownsRow_putObj hr (.deferred none) hK rfl) (show w.heap.size≤w8.heap.size by omega))
  rw [←HOK.out] at HR v0
  gi_wp2
  refine ⟨by simp,.inl ⟨_,_,rfl,run_takeDeferred hK,?_⟩⟩
  refine ⟨_,results_tmp rfl _ _ _,?_⟩
  exact ⟨G A SL.length c,rfl,HR.out,hb.trans (belowK_b (w:=w8) (by omega) W D _ _ hD hK rfl rfl)⟩
 case stop =>
  rintro D c pre W hD _ h hK
  exact h.elim
/- slices.Backward over skips. Printed by gen_locw8.py from XZoneW12. -/
open Go.RowKit Go.Shelf
attribute [local go_sem] Oper.semAt_some
def bseqS (zs:List Skip) (k:Nat):List (Int × Skip):=(List.range k).map fun j=>(((zs.length-1-j:Nat):Int),zs[zs.length-1-j]!)
theorem bseqS_succ (zs:List Skip) (k:Nat):bseqS zs (k+1)=bseqS zs k++[(((zs.length-1-k:Nat):Int),zs[zs.length-1-k]!)]:=by simp [bseqS,List.range_succ]
theorem Zz3S (zs:List Skip) (k:Nat):(bseqS zs k).length=k:=by simp [bseqS]
def encS (x:Int × Skip):Array Value:=#[B C x.1,.agg #[B C x.2.at_,B C x.2.bef,B C x.2.aft]]
set_option maxRecDepth 100000 in
set_option maxHeartbeats 2000000 in
theorem bk1_in (F:Fence) (n:Nat) (hf:F.fn 106) (hro:F.round=none) (hn:1≤n) (l Bs n₀ b off cap:Nat) (zs:List Skip) (hlen:zs.length≤1000000) (hb:b<n₀) (J Jx:List (Int × Skip)→World→Prop)
  (hY:∀ pre x W,J pre W→pre.length<zs.length→YieldAt F (n-1) Tryz.prog l (encS x) W fun e W' =>
   (e=M (.bool true)∧J (pre++[x]) W'∧Below n₀ W W')∨(e=M (.bool false)∧Jx (pre++[x]) W'))
  (W:World) (hBs:W.cell? ⟨Bs,0,H⟩=some (G (some ⟨b,off,H⟩) zs.length cap)) (hBn:Bs<n₀) (hc:∀ j,j<zs.length→∀ i u,(Skip.cells zs[j]!)[i]? = some u→W.cell? ⟨b,off+j*3+i,H⟩=some u) (h0:J [] W) :
  CallsIn F n Tryz.prog 106 #[.func (.yield l) #[] #[],.pointer (some ⟨Bs,0,H⟩)] W fun e W'=>(∃ v,e=M v) ∧
   ((∃ ys,ys=bseqS zs zs.length∧J ys W')∨(∃ pre,(∃ k,k≤zs.length∧pre=bseqS zs k)∧Jx pre W')):=by
 refine callsIn_of_wp Tryz.func106 rfl hf ?_ hro
 simp only [Tryz.ntmps106,List.size_toArray,List.length_cons,List.length_nil,Nat.reduceAdd,Nat.reduceSub,Array.replicate_succ,Array.replicate_zero,List.push_toArray,List.append_toArray,List.nil_append,List.cons_append]
 gi_wp2
 gi_loopw [3] (fun i wr=>∃ k:Nat,k≤zs.length∧i=B C ((zs.length:Int)-1-k)∧J (bseqS zs k) wr∧Below n₀ W wr) (fun i _=>(intOf i+1).toNat)
 case atStart=>exact ⟨0,Nat.zero_le _,by simp,h0,Below.refl _ _⟩
 case round =>
  obtain ⟨k,hk,rfl,hJs,hnx⟩:=hrel
  have hBx:=(hnx.cell (p:=⟨Bs,0,H⟩) hBn).trans hBs
  by_cases hlt:k<zs.length
  ·obtain ⟨m,hm⟩:∃ m,zs.length=m+1+k:=⟨zs.length-1-k,by omega⟩
   have em:(zs.length:Int)-1-k=(m:Int):=by omega
   have em2:zs.length-1-k=m:=by omega
   rw [em]
   have hsucc:=bseqS_succ zs k
   rw [em2] at hsucc
   have HS:=Hh hsucc
   have hcm:=fun i u h=>(hnx.cell (p:=⟨b,off+m*3+i,H⟩) hb).trans (hc m (by omega) i u h)
   have e0:=hcm 0 _ rfl
   have e1:=hcm 1 _ rfl
   have e2:=hcm 2 _ rfl
   rw [Nat.add_zero] at e0
   have hml:m<zs.length:=by omega
   have HM:=Hh hm
   obtain ⟨fn,tmps,assign,body,hy,hR⟩:=hY _ ((m:Int),zs[m]!) wr hJs (by rw [Zz3S];exact hlt)
   clear hcm hsucc em em2 hm hc hBs
   unfold encS at hy
   dsimp only at hy
   generalize zs[m]! = x at *
   gi_wp2
   refine hR.mono ?_
   rintro e W3 (⟨rfl,hJ3,hk3⟩|⟨rfl,hJx3⟩)
   ·gi_wp2
    go_roundw
    case rel=>exact ⟨k+1,by omega,by have:=HM.out;congr 1;omega,by rw [HS.out];exact hJ3,hnx.trans hk3⟩
    case measure=>simp [intOf]
   gi_wp2
   refine bodyPost_ret (results_none rfl _ _ _) rfl ?_
   exact ⟨⟨_,rfl⟩,.inr ⟨_,⟨k+1,by omega,HS.out.symm⟩,hJx3⟩⟩
  have hke:k=zs.length:=by omega
  subst hke
  rw [show (zs.length:Int)-1-zs.length=-1 by omega]
  gi_wp2
  go_end0
  exact ⟨⟨_,rfl⟩,.inl ⟨_,rfl,hJs⟩⟩
set_option maxRecDepth 100000 in
set_option maxHeartbeats 1000000 in
theorem bk1_nil_in (F:Fence) (n:Nat) (hf:F.fn 106) (hro:F.round=none) (l Bs:Nat) (A:Option Addr) (cap:Nat) (J:List (Int × Skip)→World→Prop) (W:World) (hBs:W.cell? ⟨Bs,0,H⟩=some (G A 0 cap)) (h0:J [] W) :
  CallsIn F n Tryz.prog 106 #[.func (.yield l) #[] #[],.pointer (some ⟨Bs,0,H⟩)] W fun e W'=>(∃ v,e=M v)∧J [] W':=by
 refine callsIn_of_wp Tryz.func106 rfl hf ?_ hro
 simp only [Tryz.ntmps106,List.size_toArray,List.length_cons,List.length_nil,Nat.reduceAdd,Nat.reduceSub,Array.replicate_succ,Array.replicate_zero,List.push_toArray,List.append_toArray,List.nil_append,List.cons_append]
 gi_wp2
 gi_loopw [3] (fun i wr=>i=B C (-1)∧J [] wr) (fun _ _=>0)
 case atStart=>exact ⟨rfl,h0⟩
 case round =>
  obtain ⟨rfl,hJs⟩:=hrel
  gi_wp2
  go_end0
  exact ⟨⟨_,rfl⟩,hJs⟩
set_option maxHeartbeats 1000000 in
theorem bk_in (F:Fence) (n:Nat) (h5:F.fn 73) (hro:F.round=none) (a:Option Addr) (len cap:Nat) (w:World) :
  CallsIn F n Tryz.prog 73 #[G a len cap] w fun e w'=>e=M (.func (.func 106) #[] #[.pointer (some ⟨w.heap.size,0,H⟩)])∧w'=w.alloc (I #[G a len cap] 112):=by
 refine callsIn_of_wp Tryz.func73 rfl h5 ?_ hro
 simp only [Tryz.ntmps73,List.size_toArray,List.length_cons,List.length_nil,Nat.reduceAdd,Nat.reduceSub,Array.replicate_succ,Array.replicate_zero,List.push_toArray,List.append_toArray,List.nil_append,List.cons_append]
 gi_wp2
 go_ret
 exact ⟨rfl,rfl⟩
theorem bk_stops (F:Fence) (n:Nat) (hf:F.fn 106) (hro:F.round=none) (hn:1≤n) (Bs n₀:Nat) (sv:Value) (zs:List Skip) (hlen:zs.length≤1000000) (w:World) (hBs:Bs<n₀) (hn₀:n₀≤w.heap.size)
  (hc:w.cell? ⟨Bs,0,H⟩=some sv) (hI:∃ wI,Rd Skip.cells 3 wI sv zs∧Below wI.heap.size wI w∧wI.heap.size≤n₀) :
  SeqStopsK F n Tryz.prog 106 #[.pointer (some ⟨Bs,0,H⟩)] encS (Below n₀) (fun ys=>ys=bseqS zs zs.length) (fun pre=>∃ k,k≤zs.length∧pre=bseqS zs k) zs.length w:=fun l J Jx W hW _ _ hY h0=>by
 have hc':=(hW.cell (p:=⟨Bs,0,H⟩) (by show Bs<_;omega)).trans hc
 obtain ⟨wI,hI,hbI,hsI⟩:=hI
 rcases hI with ⟨h0',A,c,rfl⟩|⟨g,off,c,rfl,hg,hcs⟩
 ·subst h0'
  exact (bk1_nil_in F n hf hro l Bs A c J W hc' h0).mono fun e W' ⟨he,hj⟩=>⟨he,.inl ⟨_,rfl,hj⟩⟩
 exact bk1_in F n hf hro hn l Bs n₀ g off c zs hlen (by omega) J Jx hY W hc' hBs (fun j hj i u hu=>(hW.cell (p:=⟨g,off+j*3+i,H⟩) (by show g<_;omega)).trans ((hbI.cell (p:=⟨g,off+j*3+i,H⟩) hg).trans (hcs j hj i u hu))) h0
/- local.Valid, local.gaps and what it hands back. -/
open Go.ChangeShapes Go.WideShapes Go.ChangeAt Go.RowKit
set_option maxHeartbeats 2000000 in
theorem Zz3d (g f:Int) (w:World):Calls Tryz.prog 14 #[.agg #[B C g,B C f]] w fun e w'=>e=M (.bool (polB g f))∧Below w.heap.size w w':=by
 have hB1:Below w.heap.size w (w.alloc (I #[B C g,B C f] 44)):=bLR.alloc nlR _
 have e:polB g f=(decide (1≤g) && (decide (g≤4) && (decide (1≤f) && decide (f≤3)))):=by
  unfold polB
  simp only [Bool.decide_and]
 rw [e]
 clear e
 by_cases c1:1≤g
 ·by_cases c2:g≤4
  ·by_cases c3:1≤f
   ·by_cases c4:f≤3
    ·rw [dTt c1,dTt c2,dTt c3,dTt c4]
     go_enter Tryz.func14,Tryz.ntmps14
     go_wp2
     go_ret
     exact ⟨rfl,hB1⟩
    rw [dTt c1,dTt c2,dTt c3,dFf c4]
    go_enter Tryz.func14,Tryz.ntmps14
    go_wp2
    go_ret
    exact ⟨rfl,hB1⟩
   rw [dTt c1,dTt c2,dFf c3]
   go_enter Tryz.func14,Tryz.ntmps14
   go_wp2
   go_ret
   exact ⟨rfl,hB1⟩
  rw [dTt c1,dFf c2]
  go_enter Tryz.func14,Tryz.ntmps14
  go_wp2
  go_ret
  exact ⟨rfl,hB1⟩
 rw [dFf c1]
 go_enter Tryz.func14,Tryz.ntmps14
 go_wp2
 go_ret
 exact ⟨rfl,hB1⟩
def fn0 (k:Nat):Value:=.func (.func k) #[] #[]
theorem gaps_any (w:World):Calls Tryz.prog 76 #[] w fun e w'=>e=M (.agg #[.nilFunc,fn0 107,fn0 108,fn0 109,fn0 110])∧Below w.heap.size w w':=by
 unfold fn0
 go_enter Tryz.func76,Tryz.ntmps76
 go_wp2
 exact bodyPost_ret (v:=.agg #[.nilFunc,.func (.func 107) #[] #[],.func (.func 108) #[] #[],.func (.func 109) #[] #[],.func (.func 110) #[] #[]]) (by simp [results,Tryz.results76,go_sem]) rfl ⟨rfl,by first|exact bLR.alloc nlR _|exact gaps_below _ _ _ _ _ _⟩
theorem gap1_any (l:Int) (x:Skip) (w:World):Calls Tryz.prog 107 #[B C l,.agg #[B C x.at_,B C x.bef,B C x.aft]] w fun e w'=>e=M (.tuple #[B C 0,B C 11])∧Below w.heap.size w w':=by
 have hB1:Below w.heap.size w (w.alloc (I #[B C x.at_,B C x.bef,B C x.aft] 114)):=bLR.alloc nlR _
 go_enter Tryz.func107,Tryz.ntmps107
 go_wp2
 go_ret2
 first|exact ⟨rfl,Below.refl _ _⟩|exact ⟨rfl,hB1⟩
theorem gap2_any (l:Int) (x:Skip) (w:World):Calls Tryz.prog 108 #[B C l,.agg #[B C x.at_,B C x.bef,B C x.aft]] w fun e w'=>e=M (.tuple #[B C (wrap64 (l-x.bef)),B C 0])∧Below w.heap.size w w':=by
 have hB1:Below w.heap.size w (w.alloc (I #[B C x.at_,B C x.bef,B C x.aft] 114)):=bLR.alloc nlR _
 go_enter Tryz.func108,Tryz.ntmps108
 go_wp2
 go_ret2
 exact ⟨rfl,hB1⟩
theorem gap3_any (l:Int) (x:Skip) (w:World):Calls Tryz.prog 109 #[B C l,.agg #[B C x.at_,B C x.bef,B C x.aft]] w fun e w'=>e=M (.tuple #[B C (wrap64 (l-x.aft)),B C 0])∧Below w.heap.size w w':=by
 have hB1:Below w.heap.size w (w.alloc (I #[B C x.at_,B C x.bef,B C x.aft] 114)):=bLR.alloc nlR _
 go_enter Tryz.func109,Tryz.ntmps109
 go_wp2
 go_ret2
 exact ⟨rfl,hB1⟩
theorem gap4_any (l:Int) (x:Skip) (w:World):Calls Tryz.prog 110 #[B C l,.agg #[B C x.at_,B C x.bef,B C x.aft]] w fun e w'=>e=M (.tuple #[B C x.at_,B C 0])∧Below w.heap.size w w':=by
 have hB1:Below w.heap.size w (w.alloc (I #[B C x.at_,B C x.bef,B C x.aft] 114)):=bLR.alloc nlR _
 go_enter Tryz.func110,Tryz.ntmps110
 go_wp2
 go_ret2
 exact ⟨rfl,hB1⟩
/- A region that draws its order, in the round of a range over a function: by the laws for held facts. -/
open Go.RowKit
theorem oper_round {P:Program} {o:Oper} {a:Act} {w:World} {next next':Act→World→Prop} {Q:Exit→Act→World→Prop} {l n:Nat} (hd:∀ c,o.op≠.defer c) (hn:∀ a w,next a w→next' a w)
  (h:o.wp P a w next Q):o.wpIn (Fence.wide.inRound l) n P a w next' Q:=by
 refine ⟨fun _ _=>trivial,?_⟩
 have e:o.semAt (Fence.wide.inRound l).round a.eval=execOp a.eval o:=Oper.semAt_some l a.eval o hd
 have hdp:(Fence.wide.inRound l).depth.isSome=true→1≤n:=fun h=>by cases h
 rw [e]
 unfold Oper.wp at h
 generalize (execOp a.eval o).run P w=r at *
 cases r with
 | ok x w' =>
  cases x with
  | value v=>exact hn _ _ h
  | skip=>exact hn _ _ h
  | defer d=>exact hn _ _ h
  | enter f args =>
   refine ⟨hdp,?_⟩
   have h2:=callsIn_wide (n:=n-1).2 h
   exact CallsIn.inRound l (h2.mono fun e w'' he=>by
    cases e with
    | returned v=>exact hn _ _ he
    | panicked c=>exact he
    | outgrown=>exact he)
  | row row args=>exact ⟨hdp,fun c cs _=>let ⟨v,w'',r,s⟩:=h c cs;⟨v,w'',hn _ _ r,stepsIn_wide.2 s⟩⟩
  | _=>exact h.elim
 | halt x w' =>
  cases x with
  | panic v=>exact h
  | _=>exact h.elim
theorem Zz1S {P:Program} {ops:Array Oper} {Q:Exit→Act→World→Prop} {l n:Nat} (hd:∀ (i:Nat) (o:Oper),ops[i]? = some o→∀ c,o.op≠.defer c) (hno:¬ LetsOut Q) :
  ∀ (L:List Nat) (a:Act) (w:World),wpOps P ops Q L a w→wpOpsIn (Fence.wide.inRound l) n P ops Q L a w
 | [],_,_,h=>h
 | i :: rest,a,w,h=>by
  unfold wpOps at h
  unfold wpOpsIn
  cases ho:ops[i]? with
  | none =>
   rw [ho] at h
   exact Zz1S hd hno rest a w h
  | some o =>
   rw [ho] at h
   dsimp only at h ⊢
   split at h
   ·rename_i hw
    rw [if_pos hw]
    rcases h with h|⟨_,h⟩
    ·exact oper_round (hd i o ho) (fun a w h=>Zz1S hd hno rest a w h) h
    exact absurd h hno
   rename_i hw
   rw [if_neg hw]
   exact ⟨fun _ _=>trivial,Zz1S hd hno rest _ w h⟩
def noDefer (o:Oper):Bool:=match o.op with|.defer _=>false|_=>true
theorem Zz7z {ops:Array Oper} (h:ops.all noDefer=true):∀ (i:Nat) (o:Oper),ops[i]? = some o→∀ c,o.op≠.defer c:=fun i o ho c e=>by
 have h1:=Array.all_eq_true.1 h i (Array.getElem?_eq_some_iff.1 ho).1
 rw [(Array.getElem?_eq_some_iff.1 ho).2] at h1
 unfold noDefer at h1
 rw [e] at h1
 cases h1
theorem ZzG {P:Program} {id:Nat} {ops:Array Oper} {Q:Exit→Act→World→Prop} {S:World→Prop} {a:Act} {w:World} {l n:Nat} (hm:P.follows .mixedOrders=true) (hd:ops.all noDefer=true) (hno:¬ LetsOut Q)
  (h:wpAnyH P .any ops Q S ops.size (Array.replicate ops.size false) a w.drew):(Code.region id ops true).wpIn (Fence.wide.inRound l) n P Q a w :=
 wpIn_region_draw fun t=>Zz1S (Zz7z hd) hno _ _ _ (by
  simp only [Region.schedule,hm,Bool.true_or,if_true]
  exact wpAny_sound ops.size t _ a _ (wpAny_of_held _ _ _ _ h))
end Go.Proofs.YtmmgdjgcikbhbaaGreat
