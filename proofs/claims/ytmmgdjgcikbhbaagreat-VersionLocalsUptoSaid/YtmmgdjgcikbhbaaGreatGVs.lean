/- Joined by merge.py: SpW, RunsOf, VerW4. -/
import Derived.Test.YtmmgdjgcikbhbaaGreatGUn
import Derived.Test.YtmmgdjgcikbhbaaGreatGVw
/- Lists of spans: ContainsFunc, Clone, Equal; the small functions on spans. -/
open Go.Value renaming int → C, string → F, slice → G
open Go.IntKind renaming i64 → E
open Option renaming none → H
open Go.Obj renaming cells → I
open Go.Ending renaming returned → J
namespace Go.Proofs.YtmmgdjgcikbhbaaGreat
set_option linter.unusedSimpArgs false
set_option linter.unusedVariables false
open Go.ChangeShapes Go.WideShapes Go.ChangeAt Go.RowKit Go.Sort Go.Lib
theorem noneS_if (A:Option Addr) (c:Nat) (g:Value) (w:World):Calls Tryz.prog 85 #[G A 0 c,g] w fun e w'=>e=J (C E (-1))∧w=w':=by
 go_enter Tryz.func85,Tryz.ntmps85
 go_wp2
 go_loop [8] (fun i=>i=C E 0) (fun _=>0)
 case atStart=>rfl
 case round =>
  obtain rfl:=hrel
  go_wp2
  go_ret
  exact ⟨rfl,rfl⟩
theorem noneS_cf (A:Option Addr) (c:Nat) (g:Value) (w:World):Calls Tryz.prog 47 #[G A 0 c,g] w fun e w'=>e=J (.bool false)∧w=w':=by
 go_enter Tryz.func47,Tryz.ntmps47
 go_wp2_with (go_at_call 85;refine (noneS_if _ _ _ _).mono ?_;rintro e w' ⟨rfl,rfl⟩)
 go_ret
 exact ⟨rfl,rfl⟩
theorem of1_any (s:Spn) (w:World) (hs:s.ok=true):Calls Tryz.prog 48 #[.agg (encN s).toArray] w fun e w'=>e=J (.bool false)∧Below w.heap.size w w':=by
 have HI:=Hh (fun W=>iv_any s.fr s.to W)
 rw [iv_ok s,hs] at HI
 have hB:Below w.heap.size w (w.alloc (I #[C E s.fr,C E s.to] 29)):=bLR.alloc nlR _
 clear hs
 unfold encN
 go_enter Tryz.func48,Tryz.ntmps48
 go_wp2_with fail
 refine (HI.out _).mono ?_
 rintro e w1 ⟨rfl,hb1⟩
 go_wp2
 go_ret
 exact ⟨rfl,hB.trans (hb1.mono hB.size)⟩
theorem cfS_no (g:Nat) (eg:∀ args w,(callFunc g args).run Tryz.prog w=.ok (.enter g args) w) (v:Value) (l:List Spn) (w:World) (P:Spn→Prop) (hP:∀ s∈l,P s) (d:Spn) (hd:P d) (hp:∀ (W:World) (s:Spn),P s→Calls Tryz.prog g #[.agg (encN s).toArray] W fun e w'=>e=J (.bool false)∧Below W.heap.size W w') (hl:l.length≤1000000) (hR:Rd encN 2 w v l) :
  Calls Tryz.prog 47 #[v,.func (.func g) #[] #[]] w fun e w'=>e=J (.bool false)∧Below w.heap.size w w':=by
 rcases hR with ⟨rfl,A,c,rfl⟩|⟨b,off,c,rfl,hb,hc⟩
 ·exact (noneS_cf A c _ w).mono fun e w' ⟨h1,h2⟩=>⟨h1,h2▸Below.refl _ _⟩
 -- the elements, as values of a type that holds the property
 let T:={ s:Spn // P s }
 have:Inhabited T:=⟨⟨d,hd⟩⟩
 let L:List T:=l.attach.map fun s=>⟨s.1,hP s.1 s.2⟩
 have hLl:L.length=l.length:=by simp [L]
 have hLv:∀ j,j<l.length→(L[j]!).1=l[j]! := fun j hj=>by
  rw [getElem!_pos L j (by rw [hLl];exact hj),getElem!_pos l j hj]
  simp [L]
 have h:=Tryz.slices_ContainsFunc_f47 (α:=T) 2 isAggS sizeOfS (fun s=>encN s.1) (fun s=>Zzy s.1) (fun _=>false) g #[] eg b off l.length c L w (fun W x hb=>(hp W x.1 x.2).mono fun e w' ⟨h1,h2⟩=>⟨h1,(hb.trans (h2.mono hb.size))⟩) (Nat.le_of_eq hLl.symm) (by omega) hb (fun j hj i v hv=>hc j (by rwa [hLl] at hj) i v (by rw [←hLv j (by rwa [hLl] at hj)];exact hv))
 have e:((L.take l.length).any fun _=>false)=false:=by simp
 rw [e] at h
 exact h
theorem rd_flatS {l:List Spn} {w:World} {b off:Nat} (hc:∀ j,j<l.length→∀ i u,(encN l[j]!)[i]? = some u→w.cell? ⟨b,off+j*2+i,H⟩=some u):∀ j u,(l.flatMap encN)[j]? = some u→w.cell? ⟨b,off+j,H⟩=some u:=fun j u hu=>by
 have hj:j<l.length*2:=by rw [←Zz1A Zzy l];exact (List.getElem?_eq_some_iff.1 hu).1
 have:=Zz1u Zzy l (j / 2) (j % 2) (by omega) (by omega)
 rw [show j / 2*2+j % 2=j by omega,hu] at this
 have e:=hc (j / 2) (by omega) (j % 2) u (by rw [List.getElem?_eq_getElem (by rw [Zzy];omega)];rw [getElem!_pos _ (j % 2) (by rw [Zzy];omega)] at this;exact this.symm)
 rwa [show off+j / 2*2+j % 2=off+j by omega] at e
theorem flat_oneS (l:List Spn):∀ u∈l.flatMap encN,u.oneCell'=true:=fun u hu=>by
 obtain ⟨x,_,hx⟩:=List.mem_flatMap.1 hu
 exact Zzz x u hx
theorem clone_S (v:Value) (l:List Spn) (w:World) (h0:0<l.length) (hl:l.length≤1000000) (hR:Rd encN 2 w v l):Calls Tryz.prog 50 #[v] w fun e w'=>∃ v',e=J v'∧w'.ownsRow w.heap.size 29 2 v' l.length (l.flatMap encN)∧v'≠G none 0 0∧Below w.heap.size w w':=by
 obtain ⟨i0,hi0,hz0,hz1,hz2⟩:=info_parts Zz1J
 rcases hR with ⟨rfl,A,c,rfl⟩|⟨b,off,c,rfl,_,hc⟩
 ·exact absurd h0 (by simp)
 exact Tryz.slices_Clone_f50 i0 _ 2 16 hi0 hz0 hz1 hz2 rfl (by decide) sizeOfS b off l.length c (l.flatMap encN) w (Zz1A Zzy l) (by unfold maxLen;omega) (by omega) (rd_flatS hc) (flat_oneS l)
theorem ocmp_any (x y:BSpn) (w:World):Calls Tryz.prog 52 #[.agg (encG x).toArray,.agg (encG y).toArray] w fun e w'=>e=J (C E (cmpB x y))∧∃ q os',w'=Sort.grow (w.drewN q) os':=by
 obtain ⟨⟨a,b⟩,h1,h2⟩:=x
 obtain ⟨⟨c,d⟩,h3,h4⟩:=y
 unfold cmpB encG encN
 have g1 : -4398046511104≤a∧a≤4398046511104:=⟨h1,h2⟩
 have g2 : -4398046511104≤c∧c≤4398046511104:=⟨h3,h4⟩
 have hw:wrap64 (a-c)=a-c:=by unfold wrap64;omega
 dsimp only at *
 go_enter Tryz.func52,Tryz.ntmps52
 go_wp2
 go_ret
 exact ⟨rfl,0,#[I #[C E a,C E b] 29,I #[C E c,C E d] 29],by rw [Sort.alloc_eq_grow,Sort.alloc_eq_grow,Sort.grow_grow];rfl⟩
theorem sortO (l:List BSpn) (g cap:Nat) (w:World) (hH:Sort.HoldsK encG 2 w g 0 l.toArray) (hg:g<w.heap.size) (hl:l.length≤4000000) :
  Calls Tryz.prog 51 #[G (some ⟨g,0,H⟩) l.length cap,.func (.func 52) #[] #[]] w (SortEnd l g cap w):=by
 have h:=Tryz.slices_SortFunc_f51 2 isAggS sizeOfS encG Zz5x encG_one cmpB swoB 52 #[] g 0 cap l.toArray w (enters_of Tryz.func52 (by kernel_rfl) rfl) (fun _ _ _ _ x y=>ocmp_any x y _) hH hg (by simp;omega)
 refine h.mono ?_
 rintro e' w' ⟨rfl,d',n,os,hp,hs,rfl⟩
 obtain ⟨s1,s2,s3⟩:=sort_of hp hs
 refine ⟨rfl,d'.toList,s1,s2,s3,?_,fun B w0 hb hB hB2=>Zz1V hb hB hB2,fun j hj hl=>Zz5M hj hl⟩
 have:=Zz3U (ys:=d'.toList) (n:=n) (os:=os) Zz5x hH s1 hg (cap:=cap)
 simpa using this
theorem done_any (A:Option Addr) (n c:Nat) (w:World) (h:n≤2000):Calls Tryz.prog 53 #[G A n c] w fun e w'=>e=J (.tuple #[G A n c,C E 0])∧w'=w:=by
 have d:decide ((2000:Int)<(n:Int))=false:=dFf (by omega)
 go_enter Tryz.func53,Tryz.ntmps53
 go_wp2
 go_ret2
 exact ⟨rfl,rfl⟩
theorem done_full (A:Option Addr) (n c:Nat) (w:World) (h:2000<n):Calls Tryz.prog 53 #[G A n c] w fun e w'=>e=J (.tuple #[G none 0 0,C E 5])∧w'=w:=by
 have d:decide ((2000:Int)<(n:Int))=true:=dTt (by omega)
 go_enter Tryz.func53,Tryz.ntmps53
 go_wp2
 go_ret2
 exact ⟨rfl,rfl⟩
/- runs.Of. -/
def OfEnd (l:List Spn) (w:World) (e:Ending) (w':World):Prop:=∃ out u,Canon out∧(∀ x,hasL out x↔hasL l x)∧(∀ s∈out,s.ok=true)∧out.length≤l.length∧e=J (.tuple #[u,C E 0])∧w'.ownsRow w.heap.size 29 2 u out.length (out.flatMap encN)∧Below w.heap.size w w'
def OfEnd2 (l:List Spn) (w:World) (e:Ending) (w':World):Prop:=∃ out,Canon out∧(∀ x,hasL out x↔hasL l x)∧(∀ s∈out,s.ok=true)∧out.length≤l.length∧Below w.heap.size w w' ∧
 ((out.length≤2000∧∃ u,e=J (.tuple #[u,C E 0])∧w'.ownsRow w.heap.size 29 2 u out.length (out.flatMap encN))∨(2000<out.length∧e=J (.tuple #[G none 0 0,C E 5])))
theorem canon_ok {out l:List Spn} (hc:Canon out) (hm:∀ x,hasL out x↔hasL l x) (hl:∀ s∈l,s.ok=true):∀ s∈out,s.ok=true:=fun s hs=>by
 have hn:=hc.ne s hs
 obtain ⟨a,ha,h1⟩:=(hm s.fr).1 ⟨s,hs,Int.le_refl _,hn⟩
 obtain ⟨b,hb,h2⟩:=(hm (s.to-1)).1 ⟨s,hs,by omega,by omega⟩
 have ga:=Spn.ok_iff.1 (hl a ha)
 have gb:=Spn.ok_iff.1 (hl b hb)
 unfold Spn.has at h1 h2
 exact Spn.ok_iff.2 ⟨by omega,by omega,hn⟩
set_option maxRecDepth 100000 in
set_option maxHeartbeats 8000000 in
theorem Of_runs2 (l:List Spn) (v:Value) (w:World) (h0:0<l.length) (hl:l.length≤6000) (hok:∀ s∈l,s.ok=true) (hR:Rd encN 2 w v l):Calls Tryz.prog 25 #[v] w (OfEnd2 l w):=by
 have HCF:=Hh (cfS_no 48 (enters_of Tryz.func48 (by kernel_rfl) rfl) v l w (fun s=>s.ok=true) hok ⟨0,1⟩ (by decide) (fun W s hs=>of1_any s W hs) (by omega) hR)
 have HCL:=Hh (fun W (hb:Below w.heap.size w W)=>clone_S v l W h0 (by omega) (hR.on hb))
 have HOKL:=Hh hok
 obtain ⟨A,c,rfl⟩:=Zzb hR
 clear hR hok
 unfold OfEnd2
 go_enter Tryz.func25,Tryz.ntmps25
 go_wp2_with fail
 refine HCF.out.mono ?_
 rintro e w1 ⟨rfl,hb1⟩
 clear HCF
 go_wp2_with fail
 refine (HCL.out w1 hb1).mono ?_
 rintro e w2 ⟨v',rfl,hv2,hne,hb2⟩
 clear HCL
 have hB2:RowKit.Below w.heap.size w w2:=hb1.trans (hb2.mono hb1.size)
 have hvB:w2.ownsRow w1.heap.size 29 2 v' (toB l HOKL.out).length ((toB l HOKL.out).flatMap encG):=by rw [toB_len,flatG,toB_val];exact hv2
 obtain ⟨g,cap,rfl,hg1,hg2,hg3,hg4,hH⟩:=ZzV Zz5x hvB rfl hne
 have HS:=Hh (sortO (toB l HOKL.out) g cap _ hH hg2 (by rw [toB_len];omega))
 unfold SortEnd at HS
 have HVAL:=Hh (toB_val l HOKL.out)
 rw [toB_len] at HS ⊢
 go_wp2_with fail
 refine HS.out.mono ?_
 rintro e ws ⟨rfl,L,hL1,hL2,hL3,hR,hbl,hot⟩
 have hBs:RowKit.Below w.heap.size w ws:=hbl w.heap.size w hB2 (nLt hb1.size hg1) hB2.size
 have hRR:=rd_val hR
 have hRl:(L.map BSpn.s).length=l.length:=by rw [List.length_map];exact hL1
 have hRA:(L.map BSpn.s).Pairwise (fun s t=>s.fr≤t.fr):=by rw [List.pairwise_map];exact hL3
 have hRm:∀ s,s∈L.map BSpn.s↔s∈l:=fun s=>by rw [←HVAL.out];exact (hL2.map BSpn.s).mem_iff
 have HJD:=Hh (joined hRA fun s hs=>(Spn.ok_iff.1 (HOKL.out s ((hRm s).1 hs))).2.2)
 have HRM:=Hh hRm
 have HRR:=Hh hRR
 clear HS hL1 hL2 hL3 hR hbl hot hRR hRA hRm HVAL hH hvB hv2 hg2 hne hg1 hg3 hg4 hb1 hb2 hB2
 generalize L.map BSpn.s=R at *
 have hszn:=hBs.size
 obtain ⟨i0,hi0,hz0,hz1,hz2⟩:=info_parts Zz1J
 go_wp2
 go_loopw [5,17] (fun v5 i wr=>∃ k:Nat,k≤R.length∧i=C E k∧wr.ownsRow ws.heap.size 29 2 v5 (joinF (R.take k)).length ((joinF (R.take k)).flatMap encN)∧RowKit.Below ws.heap.size ws wr) (fun _ i _=>l.length-(intOf i).toNat)
 case atStart=>exact ⟨0,Nat.zero_le _,rfl,World.ownsRow_nil _ _ _ _,Below.refl _ _⟩
 case round =>
  obtain ⟨k,hk,rfl,hown,hbr⟩:=hrel
  have hlo:(joinF (R.take k)).length≤k:=nLt (joinF_len _) (List.length_take_le _ _)
  have hszr:=hbr.size
  have hkl0:k≤l.length:=by omega
  have HRL:=Hh hRl
  by_cases hlt2:k<l.length
  ·have hlt:k<R.length:=by omega
   obtain ⟨e0,e1⟩:wr.cell? ⟨g,k*2,H⟩=some (C E (R[k]!).fr)∧wr.cell? ⟨g,k*2+1,H⟩=some (C E (R[k]!).to):=by
    obtain ⟨_,hR0|⟨g',o',hA,hg',hc⟩⟩:=rd_at (HRR.out.on hbr)
    ·rw [hR0] at hlt;exact absurd hlt (Nat.not_lt_zero _)
    injection hA with hA
    injection hA with h1 h2 _
    subst h1
    subst h2
    have:=hc k hlt
    rwa [Nat.zero_add] at this
   have HJ:=Hh (show joinF (R.take (k+1))=addRun (joinF (R.take k)) R[k]! by rw [List.take_succ_eq_append_getElem hlt,Zz4J,getElem!_pos R k hlt])
   obtain ⟨x,hx⟩:∃ x,R[k]! = x:=⟨_,rfl⟩
   rw [hx] at e0 e1 HJ
   clear hx hRl
   generalize joinF (R.take k)=O at *
   obtain ⟨A6,c6,rfl⟩:=Zzh hown
   have hBA:RowKit.Below ws.heap.size ws (wr.alloc (I #[C E x.fr,C E x.to] 29)):=hbr.alloc hbr.size _
   have HOA:=Hh (Zz8 hown (Zz6 wr (I #[C E x.fr,C E x.to] 29)))
   have bx:=Blk.new wr #[C E x.fr,C E x.to] 29
   generalize hWA:wr.alloc (I #[C E x.fr,C E x.to] 29)=WA at *
   have y0:=bx.cl 0 _ rfl
   have y1:=bx.cl 1 _ rfl
   have hszA:=hBA.size
   clear hown
   by_cases h0:O.length=0
   ·have HADD:=Hh (show addRun O x=O++[x] by unfold addRun;rw [if_neg (by omega)])
    have dk:¬ 0<O.length:=by omega
    have dk1:decide ((0:Int)<(O.length:Int))=false:=dFf (by omega)
    clear h0
    go_wp2_with fail
    go_quiet (fail)
    have hd3:RowKit.Below WA.heap.size WA (WA.drewN nq):=Zz1 bLR nq
    have hBW:=hBA.trans (hd3.mono hBA.size)
    have HO4:=Hh (Zz8 HOA.out hd3)
    have b3:Blk (WA.drewN nq) wr.heap.size #[C E x.fr,C E x.to] 29:=bx.below hd3 bx.lt
    clear y0 y1 hWA bx
    generalize WA.drewN nq=W4 at *
    have y0:=b3.cl 0 _ rfl
    have y1:=b3.cl 1 _ rfl
    have hszB:=hBW.size
    go_wp2_with (at_builtin;go_loud (refine wpList_append_own _ rfl _ _ 33 rfl ws.heap.size 29 i0 _ 2 16 Tryz.underlying33 hi0 hz0 hz1 hz2 rfl (by decide) _ _ _ rfl (HO4.out.alloc _) ⟨_,0,H⟩ 1 1 (encN x) rfl rfl (Zz5 (by simp) _) (Zzz x) (by simp only [maxLen];omega) (by omega) (by simp;omega) ?_);intro v' w5 hown5 hg5 _)
    have hB5:RowKit.Below ws.heap.size ws w5:=Zz3 HO4.out nlR (hBW.alloc hBW.size _) hg5
    go_roundw
    case rel=>exact ⟨k+1,by omega,by go_num,by rw [HJ.out,HADD.out];exact Zzp (es:=O) (x:=x) hown5,hB5⟩
    case measure=>simp [intOf];omega
   obtain ⟨q,hq⟩:∃ q,O.length=q+1:=⟨O.length-1,by omega⟩
   have dk:0<O.length:=by omega
   have dk1:decide ((0:Int)<(O.length:Int))=true:=dTt (by omega)
   have hwi:(O.length:Int)-1=(q:Int):=by omega
   have hql:q<O.length:=by omega
   obtain ⟨g6,hA6⟩:∃ g6,A6=some ⟨g6,0,H⟩:=by
    rcases HOA.out.2 with ⟨e0,_⟩|⟨g',cap',cur,e0,_⟩
    ·injection e0 with _ e1 _;omega
    injection e0 with e1 _ _;exact ⟨g',e1⟩
   subst hA6
   have HLT:=Hh (fun (W:World) (h:W.ownsRow ws.heap.size 29 2 (G (some ⟨g6,0,H⟩) O.length c6) O.length (O.flatMap encN))=>show W.cell? ⟨g6,q*2+1,H⟩=some (C E (O[q]!).to) from (h.cellAt (q*2+1) (by omega)).trans (Zz1u Zzy O q 1 hql (by omega)))
   clear h0
   have l1:=HLT.out WA HOA.out
   by_cases hle:x.fr≤(O[q]!).to
   ·have HSE:=Hh (show addRun O x=O.set q ⟨(O[q]!).fr,max (O[q]!).to x.to⟩ by unfold addRun;rw [show O.length-1=q by omega,if_pos ⟨dk,hle⟩])
    have d1:decide (x.fr≤(O[q]!).to)=true:=dTt hle
    have HSF:=Hh (Zz5Z O q (max (O[q]!).to x.to) hql)
    have HSL:=Hh (show (O.set q ⟨(O[q]!).fr,max (O[q]!).to x.to⟩).length=O.length from List.length_set)
    generalize hlt3:(O[q]!).to=lt at *
    go_wp2_with fail
    go_quiet (fail)
    have hd3:RowKit.Below WA.heap.size WA (WA.drewN nq):=Zz1 bLR nq
    have hBW:=hBA.trans (hd3.mono hBA.size)
    have hO3:=Zz8 HOA.out hd3
    have b3:Blk (WA.drewN nq) wr.heap.size #[C E x.fr,C E x.to] 29:=bx.below hd3 bx.lt
    clear y0 y1 l1 hWA bx
    generalize WA.drewN nq=W4 at *
    have y0:=b3.cl 0 _ rfl
    have y1:=b3.cl 1 _ rfl
    have l1:W4.cell? ⟨g6,q*2+1,H⟩=some (C E lt):=HLT.out W4 hO3
    have lf:=hO3.frozenAt (q*2+1)
    have HO4:=Hh hO3
    clear hO3
    go_wp2
    go_region
    have hst:=(HO4.out.stored (q*2+1) (C E (max lt x.to))).1
    have hfin:(W4.setCell ⟨g6,q*2+1,H⟩ (C E (max lt x.to))).drew.ownsRow ws.heap.size 29 2 (G (some ⟨g6,0,H⟩) (q+1) c6) (addRun O x).length ((addRun O x).flatMap encN):=by
     have h5:=Zz8 hst bLR.drew
     rw [HSE.out,HSL.out,←HSF.out]
     rw [hq] at h5 ⊢
     exact h5
    have hg6:ws.heap.size≤g6:=by
     rcases HO4.out.2 with ⟨e0,_⟩|⟨g',cap',cur,e0,h6,_⟩
     ·cases e0
     injection e0 with e1 _ _
     injection e1 with e1
     injection e1 with e1 _ _
     rw [e1];exact h6
    have hB5:RowKit.Below ws.heap.size ws (W4.setCell ⟨g6,q*2+1,H⟩ (C E (max lt x.to))).drew:=(hBW.setCell (p:=⟨g6,q*2+1,H⟩) hg6 _).drew
    generalize (W4.setCell ⟨g6,q*2+1,H⟩ (C E (max lt x.to))).drew=W5 at *
    have HQ:=Hh hq
    clear hq hst l1 lf y0 y1 b3
    go_wp2
    go_roundw
    case rel=>exact ⟨k+1,by omega,by go_num,by rw [HJ.out,HQ.out];exact hfin,hB5⟩
    case measure=>simp [intOf];omega
   have HADD:=Hh (show addRun O x=O++[x] by unfold addRun;rw [show O.length-1=q by omega,if_neg (fun h=>hle h.2)])
   have d1:decide (x.fr≤(O[q]!).to)=false:=dFf hle
   generalize (O[q]!).to=lt at *
   clear hq
   go_wp2_with fail
   go_quiet (fail)
   have hd3:RowKit.Below WA.heap.size WA (WA.drewN nq):=Zz1 bLR nq
   have hBW:=hBA.trans (hd3.mono hBA.size)
   have HO4:=Hh (Zz8 HOA.out hd3)
   have b3:Blk (WA.drewN nq) wr.heap.size #[C E x.fr,C E x.to] 29:=bx.below hd3 bx.lt
   clear y0 y1 l1 hWA bx
   generalize WA.drewN nq=W4 at *
   have y0:=b3.cl 0 _ rfl
   have y1:=b3.cl 1 _ rfl
   have hszB:=hBW.size
   go_wp2_with (at_builtin;go_loud (refine wpList_append_own _ rfl _ _ 33 rfl ws.heap.size 29 i0 _ 2 16 Tryz.underlying33 hi0 hz0 hz1 hz2 rfl (by decide) _ _ _ rfl (HO4.out.alloc _) ⟨_,0,H⟩ 1 1 (encN x) rfl rfl (Zz5 (by simp) _) (Zzz x) (by simp only [maxLen];omega) (by omega) (by simp;omega) ?_);intro v' w5 hown5 hg5 _)
   have hB5:RowKit.Below ws.heap.size ws w5:=Zz3 HO4.out nlR (hBW.alloc hBW.size _) hg5
   go_roundw
   case rel=>exact ⟨k+1,by omega,by go_num,by rw [HJ.out,HADD.out];exact Zzp (es:=O) (x:=x) hown5,hB5⟩
   case measure=>simp [intOf];omega
  have hkR:R.length≤k:=by omega
  rw [List.take_of_length_le hkR] at hown hlo
  have HO:=Hh hown
  have HCO:=Hh (canon_ok HJD.out.c (fun x=>(HJD.out.m x).trans ⟨fun ⟨s,hs,h⟩=>⟨s,(HRM.out s).1 hs,h⟩,fun ⟨s,hs,h⟩=>⟨s,(HRM.out s).2 hs,h⟩⟩) HOKL.out)
  have hll:=hlo
  generalize hO:joinF R=O at *
  obtain ⟨A6,c6,rfl⟩:=Zzh hown
  have hBr:RowKit.Below w.heap.size w wr:=hBs.trans (hbr.mono hszn)
  have hol:O.length≤l.length:=by omega
  have HOF:=Hh hO
  have hkk:k=l.length:=by omega
  subst hkk
  clear hown hO hkR hRl
  by_cases h2:O.length≤2000
  ·have HDN:=Hh (fun W=>done_any A6 O.length c6 W h2)
   go_wp2_with fail
   refine (HDN.out _).mono ?_
   rintro e w9 ⟨rfl,rfl⟩
   go_wp2
   go_ret2
   exact ⟨O,HJD.out.c,fun x=>(HJD.out.m x).trans ⟨fun ⟨s,hs,h⟩=>⟨s,(HRM.out s).1 hs,h⟩,fun ⟨s,hs,h⟩=>⟨s,(HRM.out s).2 hs,h⟩⟩,HCO.out,hol,hBr,.inl ⟨h2,G A6 O.length c6,rfl,Zz48 HO.out hszn⟩⟩
  have HDN:=Hh (fun W=>done_full A6 O.length c6 W (by omega))
  go_wp2_with fail
  refine (HDN.out _).mono ?_
  rintro e w9 ⟨rfl,rfl⟩
  go_wp2
  go_ret2
  exact ⟨O,HJD.out.c,fun x=>(HJD.out.m x).trans ⟨fun ⟨s,hs,h⟩=>⟨s,(HRM.out s).1 hs,h⟩,fun ⟨s,hs,h⟩=>⟨s,(HRM.out s).2 hs,h⟩⟩,HCO.out,hol,hBr,.inr ⟨by omega,rfl⟩⟩
theorem Of_runs (l:List Spn) (v:Value) (w:World) (h0:0<l.length) (hl:l.length≤2000) (hok:∀ s∈l,s.ok=true) (hR:Rd encN 2 w v l):Calls Tryz.prog 25 #[v] w (OfEnd l w):=by
 refine (Of_runs2 l v w h0 (by omega) hok hR).mono ?_
 rintro e w' ⟨out,h1,h2,h3,h4,h5,⟨_,u,h6,h7⟩|⟨h6,_⟩⟩
 ·exact ⟨out,u,h1,h2,h3,h4,h6,h7,h5⟩
 omega
/- version.Instants. Printed by gen_veri.py. -/
open Go.ChangeShapes Go.WideShapes Go.ChangeAt Go.RowKit
def InstEnd (z q:Zn) (a b:Int) (w:World) (e:Ending) (w':World):Prop:=Below w.heap.size w w' ∧
 (((z.valid=false∨q.valid=false∨spanV a b=false)∧e=J (.tuple #[G none 0 0,C E 1])) ∨
  (z.valid=true∧q.valid=true∧spanV a b=true∧∃ out u,Canon out∧(∀ t,hasL out t↔(a≤t∧t<b)∧z.typF t≠q.typF t)∧out.length≤2000∧e=J (.tuple #[u,C E 0])∧w'.ownsRow w.heap.size 29 2 u out.length (out.flatMap encN)))
theorem Zz3m {w:World} {base:Nat} {e:TypeId} {size:Nat} {v:Value} {n:Nat} {xs:List Value} (h:w.ownsRow base e size v n xs):∀ r,v.ownBlock=some r→r<w.heap.size:=fun r er=>by
 rcases h.2 with ⟨rfl,_⟩|⟨g,cap,cur,rfl,_,hg,_⟩
 ·simp [Value.ownBlock] at er
 obtain rfl:g=r:=by simpa [Value.ownBlock] using er
 exact (Array.getElem?_eq_some_iff.1 hg).1
theorem Zz7B {w:World} {base:Nat} {e:TypeId} {size:Nat} {v:Value} {n:Nat} {xs:List Value} (h:w.ownsRow base e size v n xs):∀ r,v.ownBlock=some r→base≤r∧r<w.heap.size:=fun r er=>by
 refine ⟨?_,Zz3m h r er⟩
 rcases h.2 with ⟨rfl,_⟩|⟨g,cap,cur,rfl,hg,_⟩
 ·simp [Value.ownBlock] at er
 obtain rfl:g=r:=by simpa [Value.ownBlock] using er
 exact hg
def KeepB (lo:Nat) (w5 w6:World) (v:Value):Prop:=w5.heap.size≤w6.heap.size∧(∀ i,lo≤i→i<w5.heap.size→w6.heap[i]? = w5.heap[i]?)∧∀ r,v.ownBlock=some r→r<lo∨w5.heap.size≤r
theorem Of_nil (w:World):Calls Tryz.prog 25 #[G none 0 0] w fun e w'=>e=J (.tuple #[G none 0 0,C E 0])∧Below w.heap.size w w':=by
 go_enter Tryz.func25,Tryz.ntmps25
 go_wp2_with (first
  | (go_at_call 47;refine (noneS_cf _ _ _ _).mono ?_;rintro e w' ⟨rfl,rfl⟩)
  | (go_at_call 50;refine (Tryz.slices_Clone_nil_f50 _ _ _).mono ?_;rintro e w' ⟨rfl,rfl⟩)
  | (go_at_call 51;refine (Tryz.slices_SortFunc_none_f51 (α:=BSpn) _ _ _ _).mono ?_;rintro e w1 ⟨rfl,rfl⟩))
 refine wp_loop_rounds 1 ?_
 rw [rounds_succ]
 go_wp2_with (go_at_call 53;refine (done_any _ _ _ _ (by decide)).mono ?_;rintro e w' ⟨rfl,rfl⟩)
 go_ret2
 exact ⟨rfl,Below.refl _ _⟩
theorem one_one (a:Int):∀ u∈[C E a],u.oneCell'=true:=by
 intro v hv
 obtain rfl:=List.mem_singleton.1 hv
 rfl
theorem Zz6I {lo:Nat} {w5 w6 w7:World} {v v':Value} {o1 o2:Obj} (h:KeepB lo w5 w6 v) (hlt:∀ r,v.ownBlock=some r→r<w6.heap.size) (hg:((w6.alloc o1).alloc o2).grownBy w7 v.ownBlock) (hat:v'.ownBlock=v.ownBlock∨v'.ownBlock=some ((w6.alloc o1).alloc o2).heap.size):KeepB lo w5 w7 v':=by
 obtain ⟨h1,h2,h3⟩:=h
 have hs:=hg.size
 simp at hs
 refine ⟨by omega,fun i hi1 hi2=>?_,fun r er=>?_⟩
 ·have hne:some i≠v.ownBlock:=fun e=>by
   rcases h3 i e.symm with h|h <;> omega
  have e1:=hg.block i (by simp;omega) hne
  have e2:=(World.grownBy_alloc (w6.alloc o1) o2 none).block i (by simp;omega) (by simp)
  have e3:=(World.grownBy_alloc w6 o1 none).block i (by omega) (by simp)
  rw [e1,e2,e3]
  exact h2 i hi1 hi2
 rcases hat with h|h
 ·rw [h] at er;exact h3 r er
 rw [h] at er
 injection er with er
 simp at er
 exact .inr (by omega)
theorem betV_of {z:Zn} (hv:z.valid=true) {a b:Int} (h : -62135596800≤a∧a<b∧b≤253402300800) (hl:(z.betF a b).length≤1000):z.betV a b=(z.betF a b,0):=by
 have hs:spanB a b=true:=by
  unfold spanB ivB lineB
  simp
  omega
 unfold Zn.betV
 rw [if_pos ⟨hs,hv⟩,if_pos hl]
set_option maxRecDepth 100000 in
set_option maxHeartbeats 8000000 in
theorem Zz5m (z q:Zn) (vTz vRz vTq vRq:Value) (a b:Int) (w:World) (hm:HasMax w)
  (hTz:Rd Trn.cells 4 w vTz z.table) (hRz:Rd Rule.cells 11 w vRz z.tail) (hTq:Rd Trn.cells 4 w vTq q.table) (hRq:Rd Rule.cells 11 w vRq q.tail) (hfz:z.form.size<4294967281) (hfq:q.form.size<4294967281) (hlz:z.tail.length≤12) (hlq:q.tail.length≤12) (htz:z.table.length≤300) (htq:q.table.length≤300) (hab:spanV a b=true→b-a≤1263000000) :
  Calls Tryz.prog 8 #[z.v vTz vRz,q.v vTq vRq,.agg #[C E a,C E b]] w (InstEnd z q a b w):=by
 have HV:=Hh (fun W (hb:Below w.heap.size w W)=>ZzE z vTz vRz W (hm.on hb) (hTz.on hb) (hRz.on hb) hfz (.inl hlz))
 have HVq:=Hh (fun W (hb:Below w.heap.size w W)=>ZzE q vTq vRq W (hm.on hb) (hTq.on hb) (hRq.on hb) hfq (.inl hlq))
 have HS:=Hh (fun W=>Zz76 a b W)
 have HBz:=Hh (fun W (hb:Below w.heap.size w W)=>Zz1E z vTz vRz a b W (hm.on hb) (hTz.on hb) (hRz.on hb) hfz (.inl hlz))
 have HBq:=Hh (fun W (hb:Below w.heap.size w W)=>Zz1E q vTq vRq a b W (hm.on hb) (hTq.on hb) (hRq.on hb) hfq (.inl hlq))
 have HI:=Hh (fun hz hq pa pb o w0 W L s hs hbe hBo ha hb hao hbo hlen hP=>ins1_any z q vTz vRz vTq vRq pa pb o w w0 W L s hz hq hs hm hTz hRz hTq hRq hfz hfq hlz hlq hbe hBo ha hb hao hbo hlen hP)
 obtain ⟨AT,cT,rfl⟩:=Zzb hTz
 obtain ⟨AR,cR,rfl⟩:=Zzb hRz
 obtain ⟨AU,cU,rfl⟩:=Zzb hTq
 obtain ⟨AS,cS,rfl⟩:=Zzb hRq
 clear hTz hRz hTq hRq hm hfz hfq
 unfold InstEnd
 have b0:=((Blk.new w #[F z.nm,C E z.first.off,C E z.first.sv,F z.first.nm,G AT z.table.length cT,G AR z.tail.length cR,C E z.off,F z.form,C E z.year] 27).alloc (I #[F q.nm,C E q.first.off,C E q.first.sv,F q.first.nm,G AU q.table.length cU,G AS q.tail.length cS,C E q.off,F q.form,C E q.year] 27)).alloc (I #[C E a,C E b] 29)
 have b1:=(Blk.new (w.alloc (I #[F z.nm,C E z.first.off,C E z.first.sv,F z.first.nm,G AT z.table.length cT,G AR z.tail.length cR,C E z.off,F z.form,C E z.year] 27)) #[F q.nm,C E q.first.off,C E q.first.sv,F q.first.nm,G AU q.table.length cU,G AS q.tail.length cS,C E q.off,F q.form,C E q.year] 27).alloc (I #[C E a,C E b] 29)
 have b2:=Blk.new ((w.alloc (I #[F z.nm,C E z.first.off,C E z.first.sv,F z.first.nm,G AT z.table.length cT,G AR z.tail.length cR,C E z.off,F z.form,C E z.year] 27)).alloc (I #[F q.nm,C E q.first.off,C E q.first.sv,F q.first.nm,G AU q.table.length cU,G AS q.tail.length cS,C E q.off,F q.form,C E q.year] 27)) #[C E a,C E b] 29
 simp only [World.size_alloc] at b1 b2
 have hB3:Below w.heap.size w (((w.alloc (I #[F z.nm,C E z.first.off,C E z.first.sv,F z.first.nm,G AT z.table.length cT,G AR z.tail.length cR,C E z.off,F z.form,C E z.year] 27)).alloc (I #[F q.nm,C E q.first.off,C E q.first.sv,F q.first.nm,G AU q.table.length cU,G AS q.tail.length cS,C E q.off,F q.form,C E q.year] 27)).alloc (I #[C E a,C E b] 29)):=((bLR.alloc nlR _).alloc (by simp) _).alloc (by simp;omega) _
 unfold Zn.v at HV HVq HBz HBq ⊢
 unfold Zn.cellsZ at HI
 go_enter Tryz.func8,Tryz.ntmps8
 go_wp2_with fail
 generalize (((w.alloc (I #[F z.nm,C E z.first.off,C E z.first.sv,F z.first.nm,G AT z.table.length cT,G AR z.tail.length cR,C E z.off,F z.form,C E z.year] 27)).alloc (I #[F q.nm,C E q.first.off,C E q.first.sv,F q.first.nm,G AU q.table.length cU,G AS q.tail.length cS,C E q.off,F q.form,C E q.year] 27)).alloc (I #[C E a,C E b] 29))=W at *
 have hw:w.heap.size≤W.heap.size:=hB3.size
 by_cases hvz:z.valid=true
 case neg =>
  have hvz0:z.valid=false:=by simpa using hvz
  refine (HV.out W hB3).mono ?_
  rintro e w1 ⟨rfl,hb1⟩
  rw [hvz0]
  go_wp2
  go_ret2
  exact ⟨hB3.trans (hb1.mono hw),.inl ⟨.inl hvz0,rfl⟩⟩
 refine (HV.out W hB3).mono ?_
 rintro e w1 ⟨rfl,hb1⟩
 rw [hvz]
 clear HV
 have Kq:=b1.below hb1 b1.lt
 have Lq:=Kq.lt
 have q0:=Zz0 Kq 0 _ rfl
 have q1:=Zz0 Kq 1 _ rfl
 have q2:=Zz0 Kq 2 _ rfl
 have q3:=Zz0 Kq 3 _ rfl
 have q4:=Zz0 Kq 4 _ rfl
 have q5:=Zz0 Kq 5 _ rfl
 have q6:=Zz0 Kq 6 _ rfl
 have q7:=Zz0 Kq 7 _ rfl
 have q8:=Zz0 Kq 8 _ rfl
 go_wp2_with fail
 by_cases hvq:q.valid=true
 case neg =>
  have hvq0:q.valid=false:=by simpa using hvq
  refine (HVq.out w1 (hB3.trans (hb1.mono hw))).mono ?_
  rintro e w2 ⟨rfl,hb2⟩
  have hb2:=hb1.trans (hb2.mono hb1.size)
  rw [hvq0]
  go_wp2
  go_ret2
  exact ⟨hB3.trans (hb2.mono hw),.inl ⟨.inr (.inl hvq0),rfl⟩⟩
 refine (HVq.out w1 (hB3.trans (hb1.mono hw))).mono ?_
 rintro e w2 ⟨rfl,hb2⟩
 have hb2:=hb1.trans (hb2.mono hb1.size)
 rw [hvq]
 clear HVq
 clear Kq Lq q0 q1 q2 q3 q4 q5 q6 q7 q8
 have Ki:=b2.below hb2 b2.lt
 have Li:=Ki.lt
 have i0:=Zz0 Ki 0 _ rfl
 have i1:=Zz0 Ki 1 _ rfl
 go_wp2_with fail
 by_cases hsp:spanV a b=true
 case neg =>
  have hsp0:spanV a b=false:=by simpa using hsp
  refine (HS.out w2).mono ?_
  rintro e w3 ⟨rfl,hb3⟩
  have hb3:=hb2.trans (hb3.mono hb2.size)
  rw [hsp0]
  go_wp2
  go_ret2
  exact ⟨hB3.trans (hb3.mono hw),.inl ⟨.inr (.inr hsp0),rfl⟩⟩
 refine (HS.out w2).mono ?_
 rintro e w3 ⟨rfl,hb3⟩
 have hb3:=hb2.trans (hb3.mono hb2.size)
 rw [hsp]
 clear HS
 clear Ki Li i0 i1
 have Kz:=b0.below hb3 b0.lt
 have Lz:=Kz.lt
 have z0:=Zz0 Kz 0 _ rfl
 have z1:=Zz0 Kz 1 _ rfl
 have z2:=Zz0 Kz 2 _ rfl
 have z3:=Zz0 Kz 3 _ rfl
 have z4:=Zz0 Kz 4 _ rfl
 have z5:=Zz0 Kz 5 _ rfl
 have z6:=Zz0 Kz 6 _ rfl
 have z7:=Zz0 Kz 7 _ rfl
 have z8:=Zz0 Kz 8 _ rfl
 have Kq:=b1.below hb3 b1.lt
 have Lq:=Kq.lt
 have q0:=Zz0 Kq 0 _ rfl
 have q1:=Zz0 Kq 1 _ rfl
 have q2:=Zz0 Kq 2 _ rfl
 have q3:=Zz0 Kq 3 _ rfl
 have q4:=Zz0 Kq 4 _ rfl
 have q5:=Zz0 Kq 5 _ rfl
 have q6:=Zz0 Kq 6 _ rfl
 have q7:=Zz0 Kq 7 _ rfl
 have q8:=Zz0 Kq 8 _ rfl
 have Ki:=b2.below hb3 b2.lt
 have Li:=Ki.lt
 have i0:=Zz0 Ki 0 _ rfl
 have i1:=Zz0 Ki 1 _ rfl
 have HI:=Hh (HI.out hvz hvq)
 have hsp2 : -62135596800≤a∧a<b∧b≤253402300800:=by
  unfold spanV at hsp
  simp at hsp
  omega
 have hbvz:z.betV a b=(z.betF a b,0):=betV_of hvz hsp2 (by have:=Zz1F hvz htz hlz (hab hsp);omega)
 have hbvq:q.betV a b=(q.betF a b,0):=betV_of hvq hsp2 (by have:=Zz1F hvq htq hlq (hab hsp);omega)
 have hlz2:=Zz1F hvz htz hlz (hab hsp)
 have hlq2:=Zz1F hvq htq hlq (hab hsp)
 unfold BetOwn at HBz HBq
 rw [hbvz] at HBz
 rw [hbvq] at HBq
 dsimp only at HBz HBq
 have HDIF:=Hh (fun l hA hb h1 h2=>dif_has hvz hvq hsp2.2.1 (l:=l) hA hb h1 h2)
 have HMZ:=Hh (fun x (hx:x∈z.betF a b)=>ZzM x hx)
 go_wp2_with fail
 obtain ⟨i0',hi0,hz0,hz1,hz2⟩:=info_parts infoI
 have ba:=Blk.new w3 #[F z.nm,C E z.first.off,C E z.first.sv,F z.first.nm,G AT z.table.length cT,G AR z.tail.length cR,C E z.off,F z.form,C E z.year,F q.nm,C E q.first.off,C E q.first.sv,F q.first.nm,G AU q.table.length cU,G AS q.tail.length cS,C E q.off,F q.form,C E q.year] 27
 have hba:Below W.heap.size W (w3.alloc (I #[F z.nm,C E z.first.off,C E z.first.sv,F z.first.nm,G AT z.table.length cT,G AR z.tail.length cR,C E z.off,F z.form,C E z.year,F q.nm,C E q.first.off,C E q.first.sv,F q.first.nm,G AU q.table.length cU,G AS q.tail.length cS,C E q.off,F q.form,C E q.year] 27)):=hb3.alloc hb3.size _
 generalize w3.alloc (I #[F z.nm,C E z.first.off,C E z.first.sv,F z.first.nm,G AT z.table.length cT,G AR z.tail.length cR,C E z.off,F z.form,C E z.year,F q.nm,C E q.first.off,C E q.first.sv,F q.first.nm,G AU q.table.length cU,G AS q.tail.length cS,C E q.off,F q.form,C E q.year] 27)=W4 at *
 have hW4:w.heap.size+3≤W4.heap.size:=by have:=b2.lt;have:=hba.size;omega
 generalize hLz:z.betF a b=Lz at *
 generalize hLq:q.betF a b=Lq at *
 go_loopw [8,33] (fun v8 v33 wr=>∃ (k:Nat) (acc:List Int),v33=C E k∧(k=0∧acc=[]∨k=1∧acc=atsF Lz∨k=2∧acc=atsF Lz++atsF Lq)∧wr.ownsRow W4.heap.size 3 1 v8 acc.length (acc.map (C E))∧Below W4.heap.size W4 wr) (fun _ v33 _=>2-(intOf v33).toNat)
 case atStart=>exact ⟨0,[],rfl,.inl ⟨rfl,rfl⟩,World.ownsRow_nil _ _ _ _,Below.refl _ _⟩
 case round =>
  obtain ⟨k,acc,rfl,hk,hown,hbr⟩:=hrel
  have hbR:Below W.heap.size W wr:=hba.trans (hbr.mono hba.size)
  rcases hk with ⟨rfl,rfl⟩|⟨rfl,rfl⟩|⟨rfl,rfl⟩
  ·skip
   have kw:=ba.below hbr ba.lt
   have lw:=kw.lt
   have c0:=Zz0 kw 0 _ rfl
   have c1:=Zz0 kw 1 _ rfl
   have c2:=Zz0 kw 2 _ rfl
   have c3:=Zz0 kw 3 _ rfl
   have c4:=Zz0 kw 4 _ rfl
   have c5:=Zz0 kw 5 _ rfl
   have c6:=Zz0 kw 6 _ rfl
   have c7:=Zz0 kw 7 _ rfl
   have c8:=Zz0 kw 8 _ rfl
   have ki:=b2.below hbR b2.lt
   have li:=ki.lt
   have i0:=Zz0 ki 0 _ rfl
   have i1:=Zz0 ki 1 _ rfl
   have HOW:=Hh hown
   clear hown
   go_wp2_with fail
   have hbZ:Below W.heap.size W (wr.alloc (I #[F z.nm,C E z.first.off,C E z.first.sv,F z.first.nm,G AT z.table.length cT,G AR z.tail.length cR,C E z.off,F z.form,C E z.year] 27)):=hbR.alloc hbR.size _
   have hbZ4:Below W4.heap.size W4 (wr.alloc (I #[F z.nm,C E z.first.off,C E z.first.sv,F z.first.nm,G AT z.table.length cT,G AR z.tail.length cR,C E z.off,F z.form,C E z.year] 27)):=hbr.alloc hbr.size _
   have HOW1:=Hh (HOW.out.alloc (I #[F z.nm,C E z.first.off,C E z.first.sv,F z.first.nm,G AT z.table.length cT,G AR z.tail.length cR,C E z.off,F z.form,C E z.year] 27))
   have hszw:wr.heap.size<(wr.alloc (I #[F z.nm,C E z.first.off,C E z.first.sv,F z.first.nm,G AT z.table.length cT,G AR z.tail.length cR,C E z.off,F z.form,C E z.year] 27)).heap.size:=by simp
   have hfar0:∀ r,u8.ownBlock=some r→r<wr.heap.size:=Zz3m HOW.out
   clear HOW
   generalize wr.alloc (I #[F z.nm,C E z.first.off,C E z.first.sv,F z.first.nm,G AT z.table.length cT,G AR z.tail.length cR,C E z.off,F z.form,C E z.year] 27)=wz at *
   refine (HBz.out wz (hB3.trans (hbZ.mono hw))).mono ?_
   rintro e w5 ⟨v5,rfl,hr5,hb5,hns5⟩
   have hR5:=Zz7 ZzO hr5 rfl
   have hlo5:∀ r,v5.ownBlock=some r→wz.heap.size≤r∧r<w5.heap.size:=Zz7B hr5
   have hO5:=Zz8 HOW1.out hb5
   have hb54:=hbZ4.trans (hb5.mono hbZ4.size)
   obtain ⟨A5,c5,rfl⟩:=Zzb hR5
   have HR5:=Hh hR5
   have HLO:=Hh hlo5
   have hK0:KeepB wz.heap.size w5 w5 u8:=⟨Nat.le_refl _,fun _ _ _=>rfl,fun r er=>.inl (Nat.lt_trans (hfar0 r er) hszw)⟩
   clear hR5 hlo5 hr5 HOW1 hfar0 ki li i0 i1 kw lw c0 c1 c2 c3 c4 c6 c7 c8
   go_wp2
   go_loopw [8,47] (fun v8 v47 w6=>∃ j:Nat,j≤Lz.length∧v47=C E j∧w6.ownsRow W4.heap.size 3 1 v8 ([]++atsF (Lz.take j)).length (([]++atsF (Lz.take j)).map (C E))∧Below W4.heap.size W4 w6∧KeepB wz.heap.size w5 w6 v8) (fun _ v47 _=>Lz.length-(intOf v47).toNat)
   case atStart=>exact ⟨0,Nat.zero_le _,rfl,by simpa [atsF] using hO5,hb54,hK0⟩
   case round =>
    obtain ⟨j,hj,rfl,hown6,hb6,hK6⟩:=hrel
    by_cases hlt:j<Lz.length
    ·obtain ⟨g,off,hA,hg,hcg⟩:∃ g off,A5=some ⟨g,off,H⟩∧g<w5.heap.size∧∀ i u,(Trn.cells Lz[j]!)[i]? = some u→w5.cell? ⟨g,off+j*4+i,H⟩=some u:=by
      rcases HR5.out with ⟨e,_⟩|⟨g,off,c',hv,hg,hc⟩
      ·rw [e] at hlt;simp at hlt
      injection hv with e1 _ _
      exact ⟨g,off,e1,hg,fun i u hu=>hc j hlt i u hu⟩
     subst hA
     have hgl:=(HLO.out g rfl).1
     have hcw:∀ i u,(Trn.cells Lz[j]!)[i]? = some u→wr.cell? ⟨g,off+j*4+i,H⟩=some u:=fun i u hu=>(World.cell?_of_block (hK6.2.1 g hgl hg)).trans (hcg i u hu)
     have e0:=hcw 0 _ rfl
     have e1:=hcw 1 _ rfl
     have e2:=hcw 2 _ rfl
     have e3:=hcw 3 _ rfl
     rw [Nat.add_zero] at e0
     have htk:atsF (Lz.take (j+1))=atsF (Lz.take j)++[(Lz[j]!).at_]:=by
      unfold atsF
      rw [List.take_succ_eq_append_getElem hlt,List.map_append,getElem!_pos Lz j hlt];rfl
     have HTK:=Hh htk
     have hgw:g<wr.heap.size:=nLl hg hK6.1
     have hln:([]++atsF (Lz.take j)).length≤3000:=by simp [atsF];omega
     have HO6:=Hh hown6
     have HK6:=Hh hK6
     clear hown6 hK6 hcg hcw htk
     generalize Lz[j]! = x at *
     obtain ⟨xa,xt⟩:=x
     dsimp only at e0 e1 e2 e3 HTK
     have hs5:=hb6.size
     go_wp2_with (at_builtin;go_loud (refine wpList_append_own_at _ rfl _ _ 53 rfl W4.heap.size 3 i0' _ 1 8 Tryz.underlying53 hi0 hz0 hz1 hz2 rfl (by decide) u8 _ _ rfl ((HO6.out.alloc _).alloc _) ⟨_,0,H⟩ 1 1 [C E xa] rfl rfl (Zz5 (by simp) _) (one_one xa) (by simp only [maxLen];omega) (by omega) (by simp;omega) ?_);intro v' w7 hown7 hg7 _ hat7)
     go_roundw
     case rel =>
      refine ⟨j+1,by omega,by go_num,?_,?_,?_⟩
      ·rw [HTK.out,←List.append_assoc,List.map_append,List.length_append]
       exact hown7
      ·exact Zz3 HO6.out nlR ((hb6.alloc hb6.size _).alloc (by simp;omega) _) hg7
      exact Zz6I HK6.out (Zz3m HO6.out) hg7 hat7
     case measure=>simp [intOf];omega
    have hj':j=Lz.length:=by omega
    subst hj'
    rw [List.take_length] at hown6
    have HBW:=Hh hb6
    go_wp2
    go_roundw
    case rel=>exact ⟨1,_,by go_num,.inr (.inl ⟨rfl,by simp⟩),hown6,HBW.out⟩
    case measure=>simp [intOf]
  ·skip
   have kw:=ba.below hbr ba.lt
   have lw:=kw.lt
   have c0:=Zz0 kw 9 _ rfl
   have c1:=Zz0 kw 10 _ rfl
   have c2:=Zz0 kw 11 _ rfl
   have c3:=Zz0 kw 12 _ rfl
   have c4:=Zz0 kw 13 _ rfl
   have c5:=Zz0 kw 14 _ rfl
   have c6:=Zz0 kw 15 _ rfl
   have c7:=Zz0 kw 16 _ rfl
   have c8:=Zz0 kw 17 _ rfl
   have ki:=b2.below hbR b2.lt
   have li:=ki.lt
   have i0:=Zz0 ki 0 _ rfl
   have i1:=Zz0 ki 1 _ rfl
   have HOW:=Hh hown
   clear hown
   go_wp2_with fail
   have hbZ:Below W.heap.size W (wr.alloc (I #[F q.nm,C E q.first.off,C E q.first.sv,F q.first.nm,G AU q.table.length cU,G AS q.tail.length cS,C E q.off,F q.form,C E q.year] 27)):=hbR.alloc hbR.size _
   have hbZ4:Below W4.heap.size W4 (wr.alloc (I #[F q.nm,C E q.first.off,C E q.first.sv,F q.first.nm,G AU q.table.length cU,G AS q.tail.length cS,C E q.off,F q.form,C E q.year] 27)):=hbr.alloc hbr.size _
   have HOW1:=Hh (HOW.out.alloc (I #[F q.nm,C E q.first.off,C E q.first.sv,F q.first.nm,G AU q.table.length cU,G AS q.tail.length cS,C E q.off,F q.form,C E q.year] 27))
   have hszw:wr.heap.size<(wr.alloc (I #[F q.nm,C E q.first.off,C E q.first.sv,F q.first.nm,G AU q.table.length cU,G AS q.tail.length cS,C E q.off,F q.form,C E q.year] 27)).heap.size:=by simp
   have hfar0:∀ r,u8.ownBlock=some r→r<wr.heap.size:=Zz3m HOW.out
   clear HOW
   generalize wr.alloc (I #[F q.nm,C E q.first.off,C E q.first.sv,F q.first.nm,G AU q.table.length cU,G AS q.tail.length cS,C E q.off,F q.form,C E q.year] 27)=wz at *
   refine (HBq.out wz (hB3.trans (hbZ.mono hw))).mono ?_
   rintro e w5 ⟨v5,rfl,hr5,hb5,hns5⟩
   have hR5:=Zz7 ZzO hr5 rfl
   have hlo5:∀ r,v5.ownBlock=some r→wz.heap.size≤r∧r<w5.heap.size:=Zz7B hr5
   have hO5:=Zz8 HOW1.out hb5
   have hb54:=hbZ4.trans (hb5.mono hbZ4.size)
   obtain ⟨A5,c5,rfl⟩:=Zzb hR5
   have HR5:=Hh hR5
   have HLO:=Hh hlo5
   have hK0:KeepB wz.heap.size w5 w5 u8:=⟨Nat.le_refl _,fun _ _ _=>rfl,fun r er=>.inl (Nat.lt_trans (hfar0 r er) hszw)⟩
   clear hR5 hlo5 hr5 HOW1 hfar0 ki li i0 i1 kw lw c0 c1 c2 c3 c4 c6 c7 c8
   go_wp2
   go_loopw [8,47] (fun v8 v47 w6=>∃ j:Nat,j≤Lq.length∧v47=C E j∧w6.ownsRow W4.heap.size 3 1 v8 (atsF Lz++atsF (Lq.take j)).length ((atsF Lz++atsF (Lq.take j)).map (C E))∧Below W4.heap.size W4 w6∧KeepB wz.heap.size w5 w6 v8) (fun _ v47 _=>Lq.length-(intOf v47).toNat)
   case atStart=>exact ⟨0,Nat.zero_le _,rfl,by simpa [atsF] using hO5,hb54,hK0⟩
   case round =>
    obtain ⟨j,hj,rfl,hown6,hb6,hK6⟩:=hrel
    by_cases hlt:j<Lq.length
    ·obtain ⟨g,off,hA,hg,hcg⟩:∃ g off,A5=some ⟨g,off,H⟩∧g<w5.heap.size∧∀ i u,(Trn.cells Lq[j]!)[i]? = some u→w5.cell? ⟨g,off+j*4+i,H⟩=some u:=by
      rcases HR5.out with ⟨e,_⟩|⟨g,off,c',hv,hg,hc⟩
      ·rw [e] at hlt;simp at hlt
      injection hv with e1 _ _
      exact ⟨g,off,e1,hg,fun i u hu=>hc j hlt i u hu⟩
     subst hA
     have hgl:=(HLO.out g rfl).1
     have hcw:∀ i u,(Trn.cells Lq[j]!)[i]? = some u→wr.cell? ⟨g,off+j*4+i,H⟩=some u:=fun i u hu=>(World.cell?_of_block (hK6.2.1 g hgl hg)).trans (hcg i u hu)
     have e0:=hcw 0 _ rfl
     have e1:=hcw 1 _ rfl
     have e2:=hcw 2 _ rfl
     have e3:=hcw 3 _ rfl
     rw [Nat.add_zero] at e0
     have htk:atsF (Lq.take (j+1))=atsF (Lq.take j)++[(Lq[j]!).at_]:=by
      unfold atsF
      rw [List.take_succ_eq_append_getElem hlt,List.map_append,getElem!_pos Lq j hlt];rfl
     have HTK:=Hh htk
     have hgw:g<wr.heap.size:=nLl hg hK6.1
     have hln:(atsF Lz++atsF (Lq.take j)).length≤3000:=by simp [atsF];omega
     have HO6:=Hh hown6
     have HK6:=Hh hK6
     clear hown6 hK6 hcg hcw htk
     generalize Lq[j]! = x at *
     obtain ⟨xa,xt⟩:=x
     dsimp only at e0 e1 e2 e3 HTK
     have hs5:=hb6.size
     go_wp2_with (at_builtin;go_loud (refine wpList_append_own_at _ rfl _ _ 53 rfl W4.heap.size 3 i0' _ 1 8 Tryz.underlying53 hi0 hz0 hz1 hz2 rfl (by decide) u8 _ _ rfl ((HO6.out.alloc _).alloc _) ⟨_,0,H⟩ 1 1 [C E xa] rfl rfl (Zz5 (by simp) _) (one_one xa) (by simp only [maxLen];omega) (by omega) (by simp;omega) ?_);intro v' w7 hown7 hg7 _ hat7)
     go_roundw
     case rel =>
      refine ⟨j+1,by omega,by go_num,?_,?_,?_⟩
      ·rw [HTK.out,←List.append_assoc,List.map_append,List.length_append]
       exact hown7
      ·exact Zz3 HO6.out nlR ((hb6.alloc hb6.size _).alloc (by simp;omega) _) hg7
      exact Zz6I HK6.out (Zz3m HO6.out) hg7 hat7
     case measure=>simp [intOf];omega
    have hj':j=Lq.length:=by omega
    subst hj'
    rw [List.take_length] at hown6
    have HBW:=Hh hb6
    go_wp2
    go_roundw
    case rel=>exact ⟨2,_,by go_num,.inr (.inr ⟨rfl,rfl⟩),hown6,HBW.out⟩
    case measure=>simp [intOf]
  have HOW:=Hh hown
  have kz:=(b0.below hbR b0.lt).alloc (I #[G none 0 0] 33)
  have kq:=(b1.below hbR b1.lt).alloc (I #[G none 0 0] 33)
  have ki:=b2.below hbR b2.lt
  have li:=ki.lt
  have i0:=Zz0 ki 0 _ rfl
  have i1:=Zz0 ki 1 _ rfl
  have bo:=Boxed.new wr 33 (G none 0 0)
  have hbO:Below W.heap.size W (wr.alloc (I #[G none 0 0] 33)):=hbR.alloc hbR.size _
  have hln:(atsF Lz++atsF Lq).length≤1900:=by simp [atsF];omega
  have HOWo:=Hh (HOW.out.alloc (I #[G none 0 0] 33))
  have hs5:=hbr.size
  have hszo:wr.heap.size<(wr.alloc (I #[G none 0 0] 33)).heap.size:=by simp
  clear hown HBz HBq HOW
  go_wp2_with fail
  generalize wr.alloc (I #[G none 0 0] 33)=wo at *
  have hfar:=Zz7B HOWo.out
  have hbe:Below w.heap.size w wo:=hB3.trans (hbO.mono hw)
  have HP:=Hh (pieces_ins w.heap.size (w.heap.size+1) wr.heap.size W4.heap.size (typB2 z q) (fun s=>nLt (typB2_len z q s) (by decide)) (atsF Lz++atsF Lq) u8 a b wo hsp2.2.1 (by omega) HOWo.out (by omega) bo.lt bo
   (fun w0 L s Wk hg hP h1 h2 h3 hl=>HI.out _ _ _ w0 Wk L s ⟨by omega,by omega⟩ (hbe.grown hg hbe.size fun r er=>by have:=hfar r er;omega) (by omega)
    (kz.kept hg (fun e=>by have:=hfar _ e.symm;omega)) (kq.kept hg (fun e=>by have:=hfar _ e.symm;omega)) (by omega) (by omega) hl hP))
  unfold PieceEnd at HP
  have HBE:=Hh (fun w0 (hg:wo.grownBy w0 u8.ownBlock)=>hbe.grown hg hbe.size fun r er=>by have:=hfar r er;omega)
  clear HI kz kq bo HOWo hfar ki li i0 i1
  refine HP.out.mono ?_
  rintro e w6 ⟨rfl,w0,hg0,hP6⟩
  clear HP
  have hb0:=HBE.out w0 hg0
  have hb6:=hb0.trans (hP6.old (show w.heap.size≤wr.heap.size by omega))
  obtain ⟨_,hoo,u,hbu,hou,hnil⟩:=hP6
  rw [Zz6n] at hou hnil
  have o0:=hbu.cell
  have HD:=Hh (HDIF.out ((atsF Lz++atsF Lq++[a,b]).mergeSort fun x y=>decide (x≤y)) (Zz2S _) (mem_ms.2 (by simp)) (fun x hx=>mem_ms.2 (by simp [atsF];exact .inl ⟨x,hx,rfl⟩)) (fun x hx=>mem_ms.2 (by simp [atsF];exact .inr (.inl ⟨x,hx,rfl⟩))))
  have hpl:=Zz13 b a ((atsF Lz++atsF Lq++[a,b]).mergeSort fun x y=>decide (x≤y))
  have hdl:=difF_len z q (piecesC b a ((atsF Lz++atsF Lq++[a,b]).mergeSort fun x y=>decide (x≤y)))
  have hpo:=(Zz16 b (f:=a) (Zz2S (atsF Lz++atsF Lq++[a,b])) (by omega)).1
  have hdo:∀ s∈difF z q (piecesC b a ((atsF Lz++atsF Lq++[a,b]).mergeSort fun x y=>decide (x≤y))),s.ok=true:=fun s hs=>by
   have h:=(hpo s (List.mem_filter.1 hs).1).1
   exact Spn.ok_iff.2 ⟨by omega,by omega,by omega⟩
  rw [List.length_mergeSort] at hpl
  have hal:(atsF Lz++atsF Lq++[a,b]).length≤1902:=by rw [List.length_append];simp only [List.length_cons,List.length_nil];omega
  generalize difF z q (piecesC b a ((atsF Lz++atsF Lq++[a,b]).mergeSort fun x y=>decide (x≤y)))=D at *
  go_wp2_with fail
  by_cases hD:D=[]
  ·have hu:=hnil hD
   subst hu
   subst hD
   refine (Of_nil _).mono ?_
   rintro e w7 ⟨rfl,hb7⟩
   go_wp2
   go_ret2
   exact ⟨hb6.trans (hb7.mono hb6.size),.inr ⟨hvz,hvq,hsp,[],_,Zz23,HD.out,by simp,rfl,World.ownsRow_nil _ _ _ _⟩⟩
  have hOf:=Of_runs D u w6 (List.length_pos_iff.2 hD) (by omega) hdo (Zz7 Zzy hou rfl)
  unfold OfEnd at hOf
  refine hOf.mono ?_
  rintro e w7 ⟨out,u',hc,hm,_,hlen,rfl,hown7,hb7⟩
  go_wp2
  go_ret2
  exact ⟨hb6.trans (hb7.mono hb6.size),.inr ⟨hvz,hvq,hsp,out,u',hc,fun t=>(hm t).trans (HD.out t),by omega,rfl,Zz1l hown7 hb6.size⟩⟩
end Go.Proofs.YtmmgdjgcikbhbaaGreat
