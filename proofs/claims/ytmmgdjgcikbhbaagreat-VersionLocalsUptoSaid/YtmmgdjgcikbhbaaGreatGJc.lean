/- Joined by merge.py: Ref24l, Ref24d, Ref24m, LawVL. -/
import Derived.Test.YtmmgdjgcikbhbaaGreatGJb
import Derived.Test.YtmmgdjgcikbhbaaGreatGVe
/- The reference of layer 24: wide, cuts. Printed by gen_ref24l.py. -/
open Go.Value renaming int → A, string → C, slice → D
open Go.IntKind renaming i64 → B
open Option renaming none → F
open Go.Obj renaming cells → G
namespace Go.Proofs.YtmmgdjgcikbhbaaGreat
set_option linter.unusedSimpArgs false
set_option linter.unusedVariables false
open Go.ChangeShapes Go.WideShapes Go.ChangeAt Go.RowKit
def lastR:Int→List Trn→Int
 | o,[]=>o
 | _,x :: xs=>lastR x.ty.off xs
theorem Zz4K:∀ (o:Int) (l:List Trn) (x:Trn),lastR o (l++[x])=x.ty.off
 | _,[],_=>rfl
 | _,y :: l,x=>by rw [List.cons_append,lastR];exact Zz4K _ l x
theorem Zz3A:∀ (o:Int) (l:List Trn) (x:Trn),chainC o (l++[x])=chainC o l++[x.at_+lastR o l,x.at_+x.ty.off,-62135596800+x.ty.off,253402300800+x.ty.off]
 | _,[],_=>rfl
 | _,y :: l,x=>by rw [List.cons_append,chainC,Zz3A,chainC,lastR,List.append_assoc]
def ptsF (o c:Int) (l:List Trn):List Int:=[-62135596800+o,253402300800+o]++chainC c l
theorem ptsF_step {o c:Int} {L:List Trn} {k:Nat} (hk:k<L.length) :
  ptsF o c (L.take (k+1))=ptsF o c (L.take k)++[(L[k]!).at_+lastR c (L.take k)]++[(L[k]!).at_+(L[k]!).ty.off]++[-62135596800+(L[k]!).ty.off]++[253402300800+(L[k]!).ty.off]∧lastR c (L.take (k+1))=(L[k]!).ty.off:=by
 rw [List.take_succ_eq_append_getElem hk,Zz4K,getElem!_pos L k hk]
 refine ⟨?_,rfl⟩
 unfold ptsF
 rw [Zz3A]
 simp
theorem own_four {w:World} {base:Nat} {e:TypeId} {v:Value} {O:List Int} {a b c d:Int} (h:w.ownsRow base e 1 v (O.length+1+1+1+1) (O.flatMap encW1++encW1 a++encW1 b++encW1 c++encW1 d)):w.ownsRow base e 1 v (O++[a]++[b]++[c]++[d]).length ((O++[a]++[b]++[c]++[d]).flatMap encW1):=by
 simpa [List.flatMap_append] using h
theorem Zz5N (o c:Int) (l:List Trn):(ptsF o c l).length=2+4*l.length:=by
 unfold ptsF
 rw [List.length_append,Zz1i]
 rfl
def cutF (S:List Spn) (a b:Int) (l:List Int):List Spn:=S++(l.filter fun c=>decide (a<c∧c<b)).map fun c=>⟨c,b⟩
theorem cutF_step {S:List Spn} {a b:Int} {L:List Int} {k:Nat} (hk:k<L.length):cutF S a b (L.take (k+1))=cutF S a b (L.take k)++(if a<L[k]! ∧ L[k]! < b then [⟨L[k]!,b⟩] else []):=by
 unfold cutF
 rw [List.take_succ_eq_append_getElem hk,List.filter_append,List.map_append,←List.append_assoc,getElem!_pos L k hk]
 congr 1
 by_cases h:a<L[k]∧L[k]<b
 ·rw [if_pos h,List.filter_cons,if_pos (dTt h)];rfl
 rw [if_neg h,List.filter_cons,if_neg (fun h2=>h (of_decide_eq_true h2))];rfl
theorem cutF_len (S:List Spn) (a b:Int) (L:List Int) (k:Nat):(cutF S a b (L.take k)).length≤S.length+k:=by
 unfold cutF
 rw [List.length_append,List.length_map]
 have h1:=List.length_filter_le (fun c=>decide (a<c∧c<b)) (L.take k)
 rw [List.length_take] at h1
 omega
theorem lastR_bd {c:Int} (hc : -93600<c∧c<93600):∀ {l:List Trn},(∀ x∈l,-93600<x.ty.off∧x.ty.off<93600) → -93600<lastR c l∧lastR c l<93600
 | [],_=>hc
 | x :: xs,h=>by rw [lastR];exact lastR_bd (h x List.mem_cons_self) fun y hy=>h y (List.mem_cons_of_mem _ hy)
set_option maxHeartbeats 1000000 in
theorem r24_wide (a b:Int) (w:World) (h1 : -62135596800≤a) (h2:a<b) (h3:b≤253402300800) :
  Calls Tryz.prog 77 #[.agg #[A B a,A B b]] w fun e w'=>e=.returned (.agg #[A B (cutA a),A B (cutB b)])∧Below w.heap.size w w':=by
 by_cases p:a-187200 < -62135596800
 ·have d1:decide (a-187200 < -62135596800)=true:=dTt p
  by_cases q:253402300800<b+187200
  ·have d2:decide (253402300800<b+187200)=true:=dTt q
   have hA:cutA a=-62135596800:=by unfold cutA;omega
   have hB:cutB b=253402300800:=by unfold cutB;omega
   rw [hA,hB]
   clear hA hB
   go_enter Tryz.func77,Tryz.ntmps77
   go_wp2
   exact bodyPost_ret (v:=.agg #[A B (-62135596800),A B 253402300800]) (by simp [results,Tryz.results77,go_sem]) rfl ⟨rfl,((bLR.alloc nlR _).alloc (by simp) _).alloc (by simp;omega) _⟩
  have d2:decide (253402300800<b+187200)=false:=dFf q
  have hA:cutA a=-62135596800:=by unfold cutA;omega
  have hB:cutB b=(b+187200):=by unfold cutB;omega
  rw [hA,hB]
  clear hA hB
  go_enter Tryz.func77,Tryz.ntmps77
  go_wp2
  exact bodyPost_ret (v:=.agg #[A B (-62135596800),A B (b+187200)]) (by simp [results,Tryz.results77,go_sem]) rfl ⟨rfl,((bLR.alloc nlR _).alloc (by simp) _).alloc (by simp;omega) _⟩
 have d1:decide (a-187200 < -62135596800)=false:=dFf p
 by_cases q:253402300800<b+187200
 ·have d2:decide (253402300800<b+187200)=true:=dTt q
  have hA:cutA a=(a-187200):=by unfold cutA;omega
  have hB:cutB b=253402300800:=by unfold cutB;omega
  rw [hA,hB]
  clear hA hB
  go_enter Tryz.func77,Tryz.ntmps77
  go_wp2
  exact bodyPost_ret (v:=.agg #[A B (a-187200),A B 253402300800]) (by simp [results,Tryz.results77,go_sem]) rfl ⟨rfl,((bLR.alloc nlR _).alloc (by simp) _).alloc (by simp;omega) _⟩
 have d2:decide (253402300800<b+187200)=false:=dFf q
 have hA:cutA a=(a-187200):=by unfold cutA;omega
 have hB:cutB b=(b+187200):=by unfold cutB;omega
 rw [hA,hB]
 clear hA hB
 go_enter Tryz.func77,Tryz.ntmps77
 go_wp2
 exact bodyPost_ret (v:=.agg #[A B (a-187200),A B (b+187200)]) (by simp [results,Tryz.results77,go_sem]) rfl ⟨rfl,((bLR.alloc nlR _).alloc (by simp) _).alloc (by simp;omega) _⟩
theorem appG {α:Type} [Inhabited α] {enc:α→List Value} {K:Nat} {wq wd w8:World} {u:Value} {q gg g7 o7 n c7:Nat} {ob:Obj} {cs:Array Value} {T:TypeId} {L:List α} (hD:Below wq.heap.size wq wd) (hg:(wd.alloc ob).grownBy w8 u.ownBlock) (hat:u.ownBlock=some gg∨gg=(wd.alloc ob).heap.size) (kb:Blk wq q cs T) (hq:u.ownBlock≠some q) (RW:Rd enc K wq (D (some ⟨g7,o7,F⟩) n c7) L) (hlt:g7<wq.heap.size) (hne:u.ownBlock≠some g7) (n' cap:Nat) :
  Blk w8 q cs T∧Rd enc K w8 (D (some ⟨g7,o7,F⟩) n c7) L∧(Value.slice (some ⟨gg,0,F⟩) n' cap).ownBlock≠some q∧Hid (∀ g,(Value.slice (some ⟨g7,o7,F⟩) n c7).ownBlock=some g→(Value.slice (some ⟨gg,0,F⟩) n' cap).ownBlock≠some g):=by
 have hA:Below wq.heap.size wq (wd.alloc ob):=hD.alloc hD.size _
 have hz:=hA.size
 have hql:=kb.lt
 have key:∀ b,b<wq.heap.size→u.ownBlock≠some b→gg≠b:=fun b hb hu e=>by
  subst e
  rcases hat with h|h
  ·exact hu h
  omega
 refine ⟨(kb.below hA hql).kept hg (fun e=>hq e.symm),(RW.on hA).grown hg hg.size (fun g h=>?_),fun e=>?_,Hh fun g h e=>?_⟩
 ·have hh:g7=g:=by simpa [Value.ownBlock] using h
  subst hh;exact hne
 ·exact key q hql hq (by simpa [Value.ownBlock] using e)
 have hh:g7=g:=by simpa [Value.ownBlock] using h
 subst hh;exact key g7 hlt hne (by simpa [Value.ownBlock] using e)
set_option maxRecDepth 100000 in
set_option maxHeartbeats 2000000 in
theorem r24_cuts (z:Zn) (vT vR:Value) (S:List Spn) (v:Value) (base:Nat) (a b:Int) (w:World) (hT:Rd Trn.cells 4 w vT z.table) (hR:Rd Rule.cells 11 w vR z.tail) (hfs:z.form.size≤2000000) (hll:z.tail.length≤12) (hl:z.table.length≤1000) (hv:z.valid=true) (h1 : -62135596800≤a) (h2:a<b) (h3:b≤253402300800) (hab:b-a≤3000000000) (hcnt:(z.betF (cutA a) (cutB b)).length≤400) (hS:S.length≤100000) (hbw:base≤w.heap.size) (hown:w.ownsRow base 29 2 v S.length (S.flatMap encN)) :
  Calls Tryz.prog 37 #[v,z.v vT vR,.agg #[A B a,A B b]] w fun e w'=>∃ v',e=.returned (.tuple #[v',A B 0])∧w'.ownsRow base 29 2 v' (S++cutS z a b).length ((S++cutS z a b).flatMap encN)∧RowKit.Below base w w':=by
 obtain ⟨Aa,hAa⟩:∃ Aa,cutA a=Aa:=⟨_,rfl⟩
 obtain ⟨Bb,hBb⟩:∃ Bb,cutB b=Bb:=⟨_,rfl⟩
 have hab2 : -62135596800≤Aa∧Aa<Bb∧Bb≤253402300800∧Bb-Aa≤3100000000:=by unfold cutA at hAa;unfold cutB at hBb;omega
 have HWD:=Hh (fun W=>r24_wide a b W h1 h2 h3)
 rw [hAa,hBb] at HWD hcnt
 have hsp:spanV Aa Bb=true:=by unfold spanV;simp;omega
 have HBT:=Hh (fun W (hb:Below w.heap.size w W)=>Zz3K z vT vR Aa Bb W (hT.on hb) (hR.on hb) hfs hll hl hv hsp (by omega) (by omega))
 have HAT:=Hh (fun t ht1 ht2 W (hb:Below w.heap.size w W)=>r22_At z vT vR t W (hT.on hb) (hR.on hb) hfs hll hl hv ht1 ht2)
 have HA1:=Hh (fun W hb=>HAT.out Aa (by omega) (by omega) W hb)
 have HCS:=Hh (show cutS z a b=(((z.cutsR a b).take (z.cutsR a b).length).filter fun c=>decide (a<c∧c<b)).map fun c=>(⟨c,b⟩:Spn) by rw [List.take_length];rfl)
 have HCR:=Hh (show z.cutsR a b=ptsF (z.offF Aa) (z.cut0 a) (z.betF Aa Bb) by unfold Zn.cutsR ptsF;rw [hAa,hBb])
 have hc0 : -93600<z.cut0 a∧z.cut0 a<93600:=by unfold Zn.cut0;split <;> exact Zz17 hv _
 have hoA:=Zz17 hv Aa
 have HTY:=Hh (show ∀ x∈z.betF Aa Bb,(-93600<x.ty.off∧x.ty.off<93600)∧Aa≤x.at_∧x.at_<Bb from fun x hx=>⟨T_ty hv x (List.mem_filter.1 hx).1,ZzM x hx⟩)
 have htF:(z.typF Aa).off=z.offF Aa:=rfl
 rw [htF] at HA1
 have hC0a : -62135596800<Aa→z.cut0 a=(z.typF (Aa-1)).off:=fun h=>by unfold Zn.cut0;rw [hAa,if_pos h];rfl
 have hC0b:¬ -62135596800<Aa→z.cut0 a=z.offF Aa:=fun h=>by unfold Zn.cut0;rw [hAa,if_neg h]
 have HC0a:=Hh hC0a
 have HC0b:=Hh hC0b
 generalize (z.typF Aa).sv=tsv at *
 generalize (z.typF Aa).nm=tnm at *
 generalize z.offF Aa=o0 at *
 obtain ⟨i0,hi0,hz0,hz1,hz2⟩:=info_parts infoI
 obtain ⟨s0,hs0,hs1,hs2,hs3⟩:=info_parts Zz1J
 obtain ⟨AT,cT,rfl⟩:=Zzb hT
 obtain ⟨AR,cR,rfl⟩:=Zzb hR
 obtain ⟨A0,q0,rfl⟩:=Zzh hown
 have kz:=(Blk.new w #[C z.nm,A B z.first.off,A B z.first.sv,C z.first.nm,D AT z.table.length cT,D AR z.tail.length cR,A B z.off,C z.form,A B z.year] 27).alloc (G #[A B a,A B b] 29)
 have ki:=Blk.new (w.alloc (G #[C z.nm,A B z.first.off,A B z.first.sv,C z.first.nm,D AT z.table.length cT,D AR z.tail.length cR,A B z.off,C z.form,A B z.year] 27)) #[A B a,A B b] 29
 rw [World.size_alloc] at ki
 have hB0:Below w.heap.size w ((w.alloc (G #[C z.nm,A B z.first.off,A B z.first.sv,C z.first.nm,D AT z.table.length cT,D AR z.tail.length cR,A B z.off,C z.form,A B z.year] 27)).alloc (G #[A B a,A B b] 29)):=(bLR.alloc nlR _).alloc (by simp) _
 have HOW0:=Hh hown
 clear hT hR hv hsp hfs hAa hBb htF hC0a hC0b hown
 unfold Zn.v at HBT HAT HA1 ⊢
 go_enter Tryz.func37,Tryz.ntmps37
 go_wp2_with fail
 generalize ((w.alloc (G #[C z.nm,A B z.first.off,A B z.first.sv,C z.first.nm,D AT z.table.length cT,D AR z.tail.length cR,A B z.off,C z.form,A B z.year] 27)).alloc (G #[A B a,A B b] 29))=W0 at *
 have y0:=ki.cl 0 _ rfl
 have y1:=ki.cl 1 _ rfl
 go_wp2_with fail
 refine (HWD.out _).mono ?_
 rintro e w1 ⟨rfl,hb1⟩
 have hB1:=hB0.trans (hb1.mono hB0.size)
 have kz:=(kz.below hb1 kz.lt).alloc (G #[A B Aa,A B Bb] 29)
 have ki:=(ki.below hb1 ki.lt).alloc (G #[A B Aa,A B Bb] 29)
 have kw:=Blk.new w1 #[A B Aa,A B Bb] 29
 have hB1:=hB1.alloc hB1.size (G #[A B Aa,A B Bb] 29)
 clear y0 y1 hB0
 have x0:=kz.cl 0 _ rfl
 have x1:=kz.cl 1 _ rfl
 have x2:=kz.cl 2 _ rfl
 have x3:=kz.cl 3 _ rfl
 have x4:=kz.cl 4 _ rfl
 have x5:=kz.cl 5 _ rfl
 have x6:=kz.cl 6 _ rfl
 have x7:=kz.cl 7 _ rfl
 have x8:=kz.cl 8 _ rfl
 have y0:=kw.cl 0 _ rfl
 have y1:=kw.cl 1 _ rfl
 go_wp2_with fail
 generalize w1.alloc (G #[A B Aa,A B Bb] 29)=W1 at *
 clear hb1
 refine (HBT.out _ hB1).mono ?_
 rintro e w2 ⟨v2,rfl,r2,hb2⟩
 have hB2:=hB1.trans (hb2.mono hB1.size)
 have R2:=Hh r2
 have KI:=Hh (ki.below hb2 ki.lt)
 have kz:=kz.below hb2 kz.lt
 have kw:=kw.below hb2 kw.lt
 obtain ⟨A2,c2,rfl⟩:=Zzb r2
 clear x0 x1 x2 x3 x4 x5 x6 x7 x8 y0 y1 r2 hb2 HBT hB1 ki
 have x0:=kz.cl 0 _ rfl
 have x1:=kz.cl 1 _ rfl
 have x2:=kz.cl 2 _ rfl
 have x3:=kz.cl 3 _ rfl
 have x4:=kz.cl 4 _ rfl
 have x5:=kz.cl 5 _ rfl
 have x6:=kz.cl 6 _ rfl
 have x7:=kz.cl 7 _ rfl
 have x8:=kz.cl 8 _ rfl
 have y0:=kw.cl 0 _ rfl
 generalize z.betF Aa Bb=L at *
 have hfd:=fun W=>fldTy o0 tsv tnm W
 go_wp2_with fail
 refine (HA1.out _ hB2).mono ?_
 rintro e w3 ⟨rfl,hb3⟩
 have hB3:=hB2.trans (hb3.mono hB2.size)
 have R3:=Hh (R2.out.on hb3)
 have KI3:=Hh (KI.out.below hb3 KI.out.lt)
 have kz:=kz.below hb3 kz.lt
 have kw:=kw.below hb3 kw.lt
 clear x0 x1 x2 x3 x4 x5 x6 x7 x8 y0 R2 KI hb3 hB2 HA1
 have x0:=kz.cl 0 _ rfl
 have x1:=kz.cl 1 _ rfl
 have x2:=kz.cl 2 _ rfl
 have x3:=kz.cl 3 _ rfl
 have x4:=kz.cl 4 _ rfl
 have x5:=kz.cl 5 _ rfl
 have x6:=kz.cl 6 _ rfl
 have x7:=kz.cl 7 _ rfl
 have x8:=kz.cl 8 _ rfl
 have y0:=kw.cl 0 _ rfl
 have HO3:=Hh (show (w3.alloc (G #[A B (-62135596800+o0),A B (253402300800+o0)] 3)).ownsRow w3.heap.size 3 1 (D (some ⟨w3.heap.size,0,F⟩) 2 2) (ptsF o0 (z.cut0 a) (L.take 0)).length ((ptsF o0 (z.cut0 a) (L.take 0)).flatMap encW1) from World.ownsRow_lit (base:=w3.heap.size) w3 #[A B (-62135596800+o0),A B (253402300800+o0)] 2 nlR (by decide) rfl)
 have hw4:Below w3.heap.size w3 (w3.alloc (G #[A B (-62135596800+o0),A B (253402300800+o0)] 3)):=Zz6 _ _
 have kz4:=kz.alloc (G #[A B (-62135596800+o0),A B (253402300800+o0)] 3)
 have kw4:=kw.alloc (G #[A B (-62135596800+o0),A B (253402300800+o0)] 3)
 have hPL:=Zz5N o0 (z.cut0 a) L
 have HLB:=Hh (fun k=>lastR_bd (c:=z.cut0 a) hc0 (l:=L.take k) (fun x hx=>(HTY.out x (List.mem_of_mem_take hx)).1))
 by_cases hA0 : -62135596800<Aa
 all_goals
  first
  |
   have dA:decide (-62135596800<Aa)=true:=dTt hA0
   have HAX:=HAT.out (Aa-1) (by omega) (by omega)
   rw [←HC0a.out hA0] at HAX
   have HAX:=Hh HAX
   generalize (z.typF (Aa-1)).sv=tsv2 at *
   generalize (z.typF (Aa-1)).nm=tnm2 at *
   generalize z.cut0 a=C0 at *
   have hfd2:=fun W=>fldTy C0 tsv2 tnm2 W
   have HCE:=Hh True.intro
   clear HAT HC0a HC0b
   clear x0 x1 x2 x3 x4 x5 x6 x7 x8
   have x0:=kz4.cl 0 _ rfl
   have x1:=kz4.cl 1 _ rfl
   have x2:=kz4.cl 2 _ rfl
   have x3:=kz4.cl 3 _ rfl
   have x4:=kz4.cl 4 _ rfl
   have x5:=kz4.cl 5 _ rfl
   have x6:=kz4.cl 6 _ rfl
   have x7:=kz4.cl 7 _ rfl
   have x8:=kz4.cl 8 _ rfl
   have y0:=kw4.cl 0 _ rfl
   go_wp2_with fail
   generalize w3.alloc (G #[A B (-62135596800+o0),A B (253402300800+o0)] 3)=wA at *
   refine (HAX.out _ (hB3.trans (hw4.mono hB3.size))).mono ?_
   rintro e w4 ⟨rfl,hb4⟩
   have HO4:=Hh (Zz8 HO3.out hb4)
   have hB4:=hw4.trans (hb4.mono hw4.size)
   clear x0 x1 x2 x3 x4 x5 x6 x7 x8 y0 kz kw kz4 kw4 hb4 hw4 HO3
   go_wp2_with fail
  |
   have dA:decide (-62135596800<Aa)=false:=dFf hA0
   have hC:=HC0b.out (by omega)
   have HAX:=Hh True.intro
   generalize z.cut0 a=C0 at *
   have HCE:=Hh hC
   clear HAT HC0a HC0b hC
   clear x0 x1 x2 x3 x4 x5 x6 x7 x8
   have y0':=kw4.cl 0 _ rfl
   go_wp2_with fail
   generalize w3.alloc (G #[A B (-62135596800+o0),A B (253402300800+o0)] 3)=wA at *
   have HO4:=HO3
   have hB4:=hw4
   clear y0 y0' kz kw kz4 kw4 hw4 HO3
  go_loopw [12,13,14] (fun v12 v13 vi wr=>∃ k:Nat,k≤L.length∧vi=A B k∧v13=A B (lastR C0 (L.take k))∧wr.ownsRow w3.heap.size 3 1 v12 (ptsF o0 C0 (L.take k)).length ((ptsF o0 C0 (L.take k)).flatMap encW1)∧Below w3.heap.size w3 wr) (fun _ _ vi _=>L.length-(intOf vi).toNat)
  case atStart=>exact ⟨0,Nat.zero_le _,rfl,by first|rfl|exact congrArg _ HCE.out.symm,HO4.out,hB4⟩
  case round =>
   obtain ⟨k,hk,rfl,rfl,hown,hbr⟩:=hrel
   have HOW:=Hh hown
   have hsz:=hbr.size
   by_cases hlt:k<L.length
   ·obtain ⟨gx,ox,hAx,hgx,hcx⟩:=rd_blkT R3.out (by omega)
    obtain ⟨e0,e1,_,_⟩:=hcx wr hbr k hlt
    have hne:u12.ownBlock≠some gx:=Zz4O hown hgx
    have hgr:gx<wr.heap.size:=nLl hgx hsz
    obtain ⟨hST1,hST2⟩:=ptsF_step (o:=o0) (c:=C0) hlt
    have HST1:=Hh hST1
    have HST2:=Hh hST2
    have hpl:=Zz5N o0 C0 (L.take k)
    rw [List.length_take] at hpl
    have hpl2:(ptsF o0 C0 (L.take k)).length≤2000:=by omega
    have hty:=HTY.out (L[k]!) (by rw [getElem!_pos L k hlt];exact List.getElem_mem _)
    have hlb:=HLB.out k
    generalize L[k]! = x at *
    obtain ⟨xa,xt⟩:=x
    dsimp only at e0 e1 hty
    generalize ptsF o0 C0 (L.take k)=O at *
    generalize lastR C0 (L.take k)=bf at *
    subst hAx
    clear hcx hown hST1 hST2 hpl
    go_wp2_with (first
     | (at_builtin;refine wpList_append_own _ rfl _ _ _ rfl w3.heap.size 3 i0 _ 1 8 Tryz.underlying53 hi0 hz0 hz1 hz2 rfl (by decide) _ _ _ rfl (HOW.out.alloc _) ⟨_,0,F⟩ 1 1 (encW1 (xa+bf)) rfl rfl (Zz5 (by simp) _) (Zzq _) (by simp only [maxLen];omega) (by omega) (by simp;omega) ?_;intro v5 w5 hown5 hg5 _;have d0:=hg5.cell (Lib.cell?_alloc_some _ e0) (fun e=>hne e.symm);have d1:=hg5.cell (Lib.cell?_alloc_some _ e1) (fun e=>hne e.symm);have hB5:Below w3.heap.size w3 w5:=Zz3 HOW.out nlR (hbr.alloc hbr.size _) hg5;have hsz5:=hB5.size;have HO5:=Hh hown5;obtain ⟨A5,c5,rfl⟩:=Zzh hown5;clear e0 e1 hown5 hg5)
     | (at_builtin;refine wpList_append_own _ rfl _ _ _ rfl w3.heap.size 3 i0 _ 1 8 Tryz.underlying53 hi0 hz0 hz1 hz2 rfl (by decide) _ _ _ rfl (HO5.out.alloc _) ⟨_,0,F⟩ 1 1 (encW1 (xa+xt.off)) rfl rfl (Zz5 (by simp) _) (Zzq _) (by simp only [maxLen];omega) (by omega) (by simp;omega) ?_;intro v6 w6 hown6 hg6 _;have hB6:Below w3.heap.size w3 w6:=Zz3 HO5.out nlR (hB5.alloc hB5.size _) hg6;have hsz6:=hB6.size;have HO6:=Hh hown6;obtain ⟨A6,c6,rfl⟩:=Zzh hown6;clear d0 d1 hown6 hg6)
     | (at_builtin;refine wpList_append_own _ rfl _ _ _ rfl w3.heap.size 3 i0 _ 1 8 Tryz.underlying53 hi0 hz0 hz1 hz2 rfl (by decide) _ _ _ rfl (HO6.out.alloc _) ⟨_,0,F⟩ 1 1 (encW1 (-62135596800+xt.off)) rfl rfl (Zz5 (by simp) _) (Zzq _) (by simp only [maxLen];omega) (by omega) (by simp;omega) ?_;intro v7 w7 hown7 hg7 _;have hB7:Below w3.heap.size w3 w7:=Zz3 HO6.out nlR (hB6.alloc hB6.size _) hg7;have hsz7:=hB7.size;have HO7:=Hh hown7;obtain ⟨A7,c7,rfl⟩:=Zzh hown7;clear hown7 hg7)
     | (at_builtin;refine wpList_append_own _ rfl _ _ _ rfl w3.heap.size 3 i0 _ 1 8 Tryz.underlying53 hi0 hz0 hz1 hz2 rfl (by decide) _ _ _ rfl (HO7.out.alloc _) ⟨_,0,F⟩ 1 1 (encW1 (253402300800+xt.off)) rfl rfl (Zz5 (by simp) _) (Zzq _) (by simp only [maxLen];omega) (by omega) (by simp;omega) ?_;intro v8 w8 hown8 hg8 _))
    have hB8:Below w3.heap.size w3 w8:=Zz3 HO7.out nlR (hB7.alloc hB7.size _) hg8
    have HO8:=Hh (own_four hown8)
    clear hown8 hg8
    go_roundw
    case rel=>exact ⟨k+1,by omega,by go_num,by rw [HST2.out],by rw [HST1.out];exact HO8.out,hB8⟩
    case measure=>simp [intOf];omega
   have hke:k=L.length:=by omega
   subst hke
   generalize lastR C0 (L.take L.length)=bl at *
   rw [List.take_length,←HCR.out] at hown
   have HOX:=Hh hown
   have hPl:(z.cutsR a b).length≤2000:=by rw [HCR.out,Zz5N];omega
   have HRP:=Hh (Zz7 ZzB HOX.out rfl)
   obtain ⟨A5,c5,rfl⟩:=Zzh hown
   generalize z.cutsR a b=P at *
   generalize hq:wr=w5 at *
   have HGP:=Hh (fun g (e:(Value.slice A5 P.length c5).ownBlock=some g)=>(hown.lt g e).1)
   clear hq hown
   have hB5:RowKit.Below base w w5:=(hB3.trans (hbr.mono hB3.size)).mono hbw
   have hsz5:=hbr.size
   have hszw:=hB3.size
   have KI5:=Hh (KI3.out.below hbr KI3.out.lt)
   have HO5:=Hh (Zz8 HOW0.out (hB3.trans (hbr.mono hB3.size)))
   have hA0x:∀ g,(Value.slice A0 S.length q0).ownBlock=some g→g<w.heap.size:=fun g e=>(HOW0.out.lt g e).2
   have hn1:(Value.slice A0 S.length q0).ownBlock≠some (w.heap.size+1):=fun e=>by have:=hA0x _ e;omega
   have hn2:=Hh (show ∀ g,(Value.slice A5 P.length c5).ownBlock=some g→(Value.slice A0 S.length q0).ownBlock≠some g from fun g e e2=>by have h1:=hA0x _ e2;have h2:=HGP.out g e;omega)
   clear HTY HLB HCR HOX HOW hbr R3 HAX hA0x
   go_wp2_with fail
   go_loopw [0,15] (fun v0 vi wr=>∃ k:Nat,k≤P.length∧vi=A B k∧wr.ownsRow base 29 2 v0 (cutF S a b (P.take k)).length ((cutF S a b (P.take k)).flatMap encN)∧RowKit.Below base w wr∧Hid (Rd encW1 1 wr (D A5 P.length c5) P)∧Hid (Blk wr (w.heap.size+1) #[A B a,A B b] 29)∧v0.ownBlock≠some (w.heap.size+1)∧Hid (∀ g,(Value.slice A5 P.length c5).ownBlock=some g→v0.ownBlock≠some g)) (fun _ vi _=>P.length-(intOf vi).toNat)
   case atStart=>exact ⟨0,Nat.zero_le _,rfl,by simpa [cutF] using HO5.out,hB5,HRP,KI5,hn1,hn2⟩
   case round =>
    obtain ⟨k,hk,rfl,hown,hbr,RP,KI,hnI,HGN⟩:=hrel
    have HOV:=Hh hown
    by_cases hlt:k<P.length
    ·obtain ⟨gx,ox,hAx,hgx,hcx⟩:=Zz5a RP.out (by omega)
     have e0:=hcx _ bLR k hlt
     have y0:=KI.out.cl 0 _ rfl
     have y1:=KI.out.cl 1 _ rfl
     have hil:=KI.out.lt
     have HST:=Hh (cutF_step (S:=S) (a:=a) (b:=b) hlt)
     have hcl:=cutF_len S a b P k
     have hnx:u0.ownBlock≠some gx:=HGN.out gx (by rw [hAx];rfl)
     generalize P[k]! = x at *
     subst hAx
     have HRPX:=Hh RP.out
     clear hcx hown RP
     by_cases q1:a<x
     ·have d1:decide (a<x)=true:=dTt q1
      by_cases q2:x<b
      ·have d2:decide (x<b)=true:=dTt q2
       have HF:=Hh (show cutF S a b (P.take (k+1))=cutF S a b (P.take k)++[⟨x,b⟩] by rw [HST.out,if_pos ⟨q1,q2⟩])
       clear HST
       go_wp2_with fail
       go_quiet (fail)
       have hd3:Below wr.heap.size wr (wr.drewN nq):=Zz1 bLR nq
       have hszr:base≤wr.heap.size:=nLt hbw hbr.size
       have hbn:RowKit.Below base w (wr.drewN nq):=hbr.trans (hd3.mono hszr)
       have HON:=Hh (Zz8 HOV.out hd3)
       have RPn:=Hh (HRPX.out.on hd3)
       have KIn:=Hh (KI.out.below hd3 hil)
       have f0:=(hd3.cell (p:=⟨gx,ox+k,F⟩) hgx).trans e0
       have f1:=(hd3.cell (p:=⟨w.heap.size+1,1,F⟩) hil).trans y1
       have hgxn:=nLl hgx hd3.size
       have hiln:=nLl hil hd3.size
       have hszn:base≤(wr.drewN nq).heap.size:=nLt hszr hd3.size
       clear e0 y0 y1 KI HRPX hd3 hgx hil hbr hszr
       generalize wr.drewN nq=wq at *
       generalize cutF S a b (P.take k)=O at *
       have hdr:Below wq.heap.size wq wq.drew:=Zz1 bLR 1
       have HOD:=Hh (Zz8 HON.out hdr)
       have HBN:=Hh hbn
       have HS:=Hh (fun w' (hb:Below wq.heap.size wq w')=>And.intro (hbn.trans (hb.mono hszn)) (And.intro ((hb.cell (p:=⟨gx,ox+k,F⟩) hgxn).trans f0) ((hb.cell (p:=⟨w.heap.size+1,1,F⟩) hiln).trans f1)))
       go_wp2_with fail
       go_region_held3 (fun w'=>RowKit.Below base w w'∧w'.cell? ⟨gx,ox+k,F⟩=some (A B x)∧w'.cell? ⟨w.heap.size+1,1,F⟩=some (A B b)) (first|exact HS.out _ hdr|exact HS.out _ (hdr.alloc hdr.size _)|exact K8|go_keep)
        ((refine step_append_lies _ (by rfl) _ _ _ (by rfl) base 29 s0 _ 2 16 Tryz.underlying33 hs0 hs1 hs2 hs3 rfl (by omega) _ _ _ (by rfl) (HOD.out.alloc _) ⟨_,0,F⟩ 1 1 (encN ⟨x,b⟩) (by rfl) (by rfl) (World.news_of_block (cs:=(encN ⟨x,b⟩).toArray) (t:=29) (fr:=(0,0)) (heap_alloc_new _ _)) (Zzz _) (by omega) (by simp only [maxLen];omega) (by omega) (by simp;omega) _ rfl ?_;intro gg cap w8 hown8 hg8 hat8 hlt8;have hA8:=hdr.alloc hdr.size (G (encN ⟨x,b⟩).toArray 29);have B8:RowKit.Below base w w8:=(HBN.out.trans (hA8.mono hszn)).grown hg8 (nLt hszn hA8.size) (fun g e=>(HON.out.lt g e).1);have K8:=And.intro B8 (And.intro ((hg8.cell_far ⟨gx,ox+k,F⟩ (nLl hgxn hA8.size) (fun e=>hnx e.symm)).trans ((hA8.cell (p:=⟨gx,ox+k,F⟩) hgxn).trans f0)) ((hg8.cell_far ⟨w.heap.size+1,1,F⟩ (nLl hiln hA8.size) (fun e=>hnI e.symm)).trans ((hA8.cell (p:=⟨w.heap.size+1,1,F⟩) hiln).trans f1)))))
       obtain ⟨KB,RW,hqx,HGX⟩:=appG hdr hg8 hat8 KIn.out hnI RPn.out hgxn hnx (O.length+1) cap
       have OW:=Zzp (es:=O) (x:=(⟨x,b⟩:Spn)) hown8
       have BW:=K8.1
       clear HS hdr K8 f0 f1
       go_wp2
       go_roundw
       case rel=>exact ⟨k+1,by omega,by go_num,by rw [HF.out];exact OW,BW,Hh RW,Hh KB,hqx,HGX⟩
       case measure=>simp [intOf];omega
      have d2:decide (x<b)=false:=dFf q2
      have HF:=Hh (show cutF S a b (P.take (k+1))=cutF S a b (P.take k) by rw [HST.out,if_neg (fun h=>q2 h.2),List.append_nil])
      clear HST
      go_wp2_with fail
      go_quiet (fail)
      have hd3:Below wr.heap.size wr (wr.drewN nq):=Zz1 bLR nq
      have hszr:base≤wr.heap.size:=nLt hbw hbr.size
      have hbn:RowKit.Below base w (wr.drewN nq):=hbr.trans (hd3.mono hszr)
      have HON:=Hh (Zz8 HOV.out hd3)
      have RPn:=Hh (HRPX.out.on hd3)
      have KIn:=Hh (KI.out.below hd3 hil)
      have f0:=(hd3.cell (p:=⟨gx,ox+k,F⟩) hgx).trans e0
      have f1:=(hd3.cell (p:=⟨w.heap.size+1,1,F⟩) hil).trans y1
      have hgxn:=nLl hgx hd3.size
      have hiln:=nLl hil hd3.size
      have hszn:base≤(wr.drewN nq).heap.size:=nLt hszr hd3.size
      clear e0 y0 y1 KI HRPX hd3 hgx hil hbr hszr
      generalize wr.drewN nq=wq at *
      go_wp2
      go_roundw
      case rel=>exact ⟨k+1,by omega,by go_num,by rw [HF.out];exact HON.out,hbn,RPn,KIn,hnI,HGN⟩
      case measure=>simp [intOf];omega
     have d1:decide (a<x)=false:=dFf q1
     have HF:=Hh (show cutF S a b (P.take (k+1))=cutF S a b (P.take k) by rw [HST.out,if_neg (fun h=>q1 h.1),List.append_nil])
     clear HST
     go_wp2_with fail
     go_quiet (fail)
     have hd3:Below wr.heap.size wr (wr.drewN nq):=Zz1 bLR nq
     have hszr:base≤wr.heap.size:=nLt hbw hbr.size
     have hbn:RowKit.Below base w (wr.drewN nq):=hbr.trans (hd3.mono hszr)
     have HON:=Hh (Zz8 HOV.out hd3)
     have RPn:=Hh (HRPX.out.on hd3)
     have KIn:=Hh (KI.out.below hd3 hil)
     have f0:=(hd3.cell (p:=⟨gx,ox+k,F⟩) hgx).trans e0
     have f1:=(hd3.cell (p:=⟨w.heap.size+1,1,F⟩) hil).trans y1
     have hgxn:=nLl hgx hd3.size
     have hiln:=nLl hil hd3.size
     have hszn:base≤(wr.drewN nq).heap.size:=nLt hszr hd3.size
     clear e0 y0 y1 KI HRPX hd3 hgx hil hbr hszr
     generalize wr.drewN nq=wq at *
     go_wp2
     go_roundw
     case rel=>exact ⟨k+1,by omega,by go_num,by rw [HF.out];exact HON.out,hbn,RPn,KIn,hnI,HGN⟩
     case measure=>simp [intOf];omega
    have hke:k=P.length:=by omega
    subst hke
    have HFIN:=Hh (show cutF S a b (P.take P.length)=S++cutS z a b by unfold cutF;rw [HCS.out])
    rw [HFIN.out] at hown
    obtain ⟨A9,c9,rfl⟩:=Zzh hown
    have HO9:=Hh hown
    clear hown HOV
    go_wp2
    go_ret2
    exact ⟨_,rfl,HO9.out,hbr⟩
/- The reference of layer 24: differ. Printed by gen_ref24d.py. -/
def partN (u1 e1 u2 e2 x1 x2 fr to:Int):List Spn :=
 if e1≠0∨e2≠0 then (if e1=e2 then [] else [⟨fr,to⟩])
 else
  let sl:=if 1<to-fr then (x1-u1)-(x2-u2) else 0
  if sl=0 then (if u1=u2 then [] else [⟨fr,to⟩])
  else
   let e:=fr+(u2-u1)*sl
   if e<fr∨to≤e then [⟨fr,to⟩]
   else (if fr<e then [⟨fr,e⟩] else [])++(if e+1<to then [⟨e+1,to⟩] else [])
theorem partR_eq (r q:Int→Int × Int) (s:Spn):partR r q s=partN (r s.fr).1 (r s.fr).2 (q s.fr).1 (q s.fr).2 (r (s.fr+1)).1 (q (s.fr+1)).1 s.fr s.to:=rfl
theorem partN_e {u1 e1 u2 e2 x1 x2 fr to:Int} (h:e1≠0∨e2≠0):partN u1 e1 u2 e2 x1 x2 fr to=if e1=e2 then [] else [⟨fr,to⟩]:=if_pos h
theorem Zz3I {u1 u2 x1 x2 fr to:Int} (hs:(if 1<to-fr then (x1-u1)-(x2-u2) else 0)=0):partN u1 0 u2 0 x1 x2 fr to=if u1=u2 then [] else [⟨fr,to⟩]:=by
 unfold partN
 rw [if_neg (by simp)]
 simp only [hs]
 rfl
theorem partN_c {u1 u2 x1 x2 fr to sl E:Int} (hs:(if 1<to-fr then (x1-u1)-(x2-u2) else 0)=sl) (h0:sl≠0) (hE:fr+(u2-u1)*sl=E):partN u1 0 u2 0 x1 x2 fr to=if E<fr∨to≤E then [⟨fr,to⟩] else (if fr<E then [⟨fr,E⟩] else [])++(if E+1<to then [⟨E+1,to⟩] else []):=by
 unfold partN
 rw [if_neg (by simp)]
 simp only [hs,hE]
 rw [if_neg h0]
set_option maxRecDepth 100000 in
set_option maxHeartbeats 4000000 in
theorem r24_differ (za:Zn) (vTa vRa:Value) (zb:Zn) (vTb vRb:Value) (O:List Spn) (v:Value) (base:Nat) (fr to g f:Int) (w:World) (hTa:Rd Trn.cells 4 w vTa za.table) (hRa:Rd Rule.cells 11 w vRa za.tail) (hTb:Rd Trn.cells 4 w vTb zb.table) (hRb:Rd Rule.cells 11 w vRb zb.tail) (hfa:za.form.size≤2000000) (hfb:zb.form.size≤2000000) (hla:za.tail.length≤12) (hlb:zb.tail.length≤12) (hta:za.table.length≤1000) (htb:zb.table.length≤1000) (hva:za.valid=true) (hvb:zb.valid=true) (hp:polB g f=true) (h1 : -62135596800≤fr) (h2:fr<to) (h3:to≤253402300800) (hsa:Shape (fun y=>za.resV y g f) fr to) (hsb:Shape (fun y=>zb.resV y g f) fr to) (hca:∀ l,(za.betF (cutA l) (cutB (l+1))).length≤1000) (hcb:∀ l,(zb.betF (cutA l) (cutB (l+1))).length≤1000) (hO:O.length≤90000) (hbw:base≤w.heap.size) (hown:w.ownsRow base 29 2 v O.length (O.flatMap encN)) :
  Calls Tryz.prog 38 #[v,za.v vTa vRa,zb.v vTb vRb,.agg #[A B fr,A B to],.agg #[A B g,A B f]] w fun e w'=>∃ v',e=.returned v'∧w'.ownsRow base 29 2 v' (addL O (partR (fun y=>za.resV y g f) (fun y=>zb.resV y g f) ⟨fr,to⟩)).length ((addL O (partR (fun y=>za.resV y g f) (fun y=>zb.resV y g f) ⟨fr,to⟩)).flatMap encN)∧RowKit.Below base w w':=by
 obtain ⟨u1,e1,m1,k1,j1,g1⟩:=hsa
 obtain ⟨u2,e2,m2,k2,j2,g2⟩:=hsb
 have ra0:za.resV fr g f=(u1,e1):=by have:=g1 fr (Int.le_refl _) h2;rwa [Int.sub_self,Int.mul_zero,Int.add_zero] at this
 have rb0:zb.resV fr g f=(u2,e2):=by have:=g2 fr (Int.le_refl _) h2;rwa [Int.sub_self,Int.mul_zero,Int.add_zero] at this
 have ra1:1<to-fr→za.resV (fr+1) g f=(u1+m1,e1):=fun h=>by have:=g1 (fr+1) (by omega) (by omega);rwa [show fr+1-fr=1 by omega,Int.mul_one] at this
 have rb1:1<to-fr→zb.resV (fr+1) g f=(u2+m2,e2):=fun h=>by have:=g2 (fr+1) (by omega) (by omega);rwa [show fr+1-fr=1 by omega,Int.mul_one] at this
 have hu1:=Zz7J za fr g f
 have hu2:=Zz7J zb fr g f
 rw [ra0] at hu1
 rw [rb0] at hu2
 dsimp only at hu1 hu2
 have HA0:=Hh (fun W (hb:Below w.heap.size w W)=>Zz1L za vTa vRa fr g f W (hTa.on hb) (hRa.on hb) hfa hla hta hva hp h1 (by omega) (hca fr))
 have HB0:=Hh (fun W (hb:Below w.heap.size w W)=>Zz1L zb vTb vRb fr g f W (hTb.on hb) (hRb.on hb) hfb hlb htb hvb hp h1 (by omega) (hcb fr))
 have HA1:=Hh (fun (h:1<to-fr) W (hb:Below w.heap.size w W)=>Zz1L za vTa vRa (fr+1) g f W (hTa.on hb) (hRa.on hb) hfa hla hta hva hp (by omega) (by omega) (hca (fr+1)))
 have HB1:=Hh (fun (h:1<to-fr) W (hb:Below w.heap.size w W)=>Zz1L zb vTb vRb (fr+1) g f W (hTb.on hb) (hRb.on hb) hfb hlb htb hvb hp (by omega) (by omega) (hcb (fr+1)))
 rw [ra0] at HA0
 rw [rb0] at HB0
 have HPR:=Hh (show partR (fun y=>za.resV y g f) (fun y=>zb.resV y g f) ⟨fr,to⟩=partN u1 e1 u2 e2 (za.resV (fr+1) g f).1 (zb.resV (fr+1) g f).1 fr to by
  rw [partR_eq]
  dsimp only
  rw [ra0,rb0])
 generalize partR (fun y=>za.resV y g f) (fun y=>zb.resV y g f) ⟨fr,to⟩=PR at *
 obtain ⟨AT,cT,rfl⟩:=Zzb hTa
 obtain ⟨AR,cR,rfl⟩:=Zzb hRa
 obtain ⟨AU,cU,rfl⟩:=Zzb hTb
 obtain ⟨AS,cS,rfl⟩:=Zzb hRb
 obtain ⟨A0,q0,rfl⟩:=Zzh hown
 have KA:=Hh ((((Blk.new w #[C za.nm,A B za.first.off,A B za.first.sv,C za.first.nm,D AT za.table.length cT,D AR za.tail.length cR,A B za.off,C za.form,A B za.year] 27).alloc (G #[C zb.nm,A B zb.first.off,A B zb.first.sv,C zb.first.nm,D AU zb.table.length cU,D AS zb.tail.length cS,A B zb.off,C zb.form,A B zb.year] 27)).alloc (G #[A B fr,A B to] 29)).alloc (G #[A B g,A B f] 44))
 have kb:=((Blk.new (w.alloc (G #[C za.nm,A B za.first.off,A B za.first.sv,C za.first.nm,D AT za.table.length cT,D AR za.tail.length cR,A B za.off,C za.form,A B za.year] 27)) #[C zb.nm,A B zb.first.off,A B zb.first.sv,C zb.first.nm,D AU zb.table.length cU,D AS zb.tail.length cS,A B zb.off,C zb.form,A B zb.year] 27).alloc (G #[A B fr,A B to] 29)).alloc (G #[A B g,A B f] 44)
 have ki:=(Blk.new ((w.alloc (G #[C za.nm,A B za.first.off,A B za.first.sv,C za.first.nm,D AT za.table.length cT,D AR za.tail.length cR,A B za.off,C za.form,A B za.year] 27)).alloc (G #[C zb.nm,A B zb.first.off,A B zb.first.sv,C zb.first.nm,D AU zb.table.length cU,D AS zb.tail.length cS,A B zb.off,C zb.form,A B zb.year] 27)) #[A B fr,A B to] 29).alloc (G #[A B g,A B f] 44)
 have kp:=Blk.new (((w.alloc (G #[C za.nm,A B za.first.off,A B za.first.sv,C za.first.nm,D AT za.table.length cT,D AR za.tail.length cR,A B za.off,C za.form,A B za.year] 27)).alloc (G #[C zb.nm,A B zb.first.off,A B zb.first.sv,C zb.first.nm,D AU zb.table.length cU,D AS zb.tail.length cS,A B zb.off,C zb.form,A B zb.year] 27)).alloc (G #[A B fr,A B to] 29)) #[A B g,A B f] 44
 simp only [World.size_alloc] at kb ki kp
 have hB0:Below w.heap.size w ((((w.alloc (G #[C za.nm,A B za.first.off,A B za.first.sv,C za.first.nm,D AT za.table.length cT,D AR za.tail.length cR,A B za.off,C za.form,A B za.year] 27)).alloc (G #[C zb.nm,A B zb.first.off,A B zb.first.sv,C zb.first.nm,D AU zb.table.length cU,D AS zb.tail.length cS,A B zb.off,C zb.form,A B zb.year] 27)).alloc (G #[A B fr,A B to] 29)).alloc (G #[A B g,A B f] 44)):=(((bLR.alloc nlR _).alloc (by simp) _).alloc (by simp;omega) _).alloc (by simp;omega) _
 have KB:=Hh kb
 have KI:=Hh ki
 have KP:=Hh kp
 have HOW:=Hh hown
 have hA0x:∀ g',(Value.slice A0 O.length q0).ownBlock=some g'→g'<w.heap.size:=fun g' e=>(hown.lt g' e).2
 have hni:(Value.slice A0 O.length q0).ownBlock≠some (w.heap.size+2):=fun e=>by have:=hA0x _ e;omega
 clear hTa hRa hTb hRb hva hvb hfa hfb kb ki kp hown hA0x hp hca hcb g1 g2 ra0 rb0
 unfold Zn.v at HA0 HB0 HA1 HB1 ⊢
 go_enter Tryz.func38,Tryz.ntmps38
 go_wp2_with fail
 generalize ((((w.alloc (G #[C za.nm,A B za.first.off,A B za.first.sv,C za.first.nm,D AT za.table.length cT,D AR za.tail.length cR,A B za.off,C za.form,A B za.year] 27)).alloc (G #[C zb.nm,A B zb.first.off,A B zb.first.sv,C zb.first.nm,D AU zb.table.length cU,D AS zb.tail.length cS,A B zb.off,C zb.form,A B zb.year] 27)).alloc (G #[A B fr,A B to] 29)).alloc (G #[A B g,A B f] 44))=W0 at *
 have hW0:Below W0.heap.size W0 W0:=Below.refl _ _
 have Ka:=KA.out.below hW0 KA.out.lt
 have a0:=Ka.cl 0 _ rfl
 have a1:=Ka.cl 1 _ rfl
 have a2:=Ka.cl 2 _ rfl
 have a3:=Ka.cl 3 _ rfl
 have a4:=Ka.cl 4 _ rfl
 have a5:=Ka.cl 5 _ rfl
 have a6:=Ka.cl 6 _ rfl
 have a7:=Ka.cl 7 _ rfl
 have a8:=Ka.cl 8 _ rfl
 have Ks:=KI.out.below hW0 KI.out.lt
 have s0:=Ks.cl 0 _ rfl
 have s1:=Ks.cl 1 _ rfl
 have Kp:=KP.out.below hW0 KP.out.lt
 have p0:=Kp.cl 0 _ rfl
 have p1:=Kp.cl 1 _ rfl
 go_wp2_with fail
 refine (HA0.out _ hB0).mono ?_
 rintro e w1 ⟨rfl,hb1⟩
 clear HA0
 clear Ka a0 a1 a2 a3 a4 a5 a6 a7 a8 Ks s0 s1 Kp p0 p1
 have Kb:=KB.out.below hb1 KB.out.lt
 have b0:=Kb.cl 0 _ rfl
 have b1:=Kb.cl 1 _ rfl
 have b2:=Kb.cl 2 _ rfl
 have b3:=Kb.cl 3 _ rfl
 have b4:=Kb.cl 4 _ rfl
 have b5:=Kb.cl 5 _ rfl
 have b6:=Kb.cl 6 _ rfl
 have b7:=Kb.cl 7 _ rfl
 have b8:=Kb.cl 8 _ rfl
 have Ks:=KI.out.below hb1 KI.out.lt
 have s0:=Ks.cl 0 _ rfl
 have s1:=Ks.cl 1 _ rfl
 have Kp:=KP.out.below hb1 KP.out.lt
 have p0:=Kp.cl 0 _ rfl
 have p1:=Kp.cl 1 _ rfl
 go_wp2_with fail
 refine (HB0.out _ (hB0.trans (hb1.mono hB0.size))).mono ?_
 rintro e w2 ⟨rfl,hb2⟩
 have hb2:=hb1.trans (hb2.mono hb1.size)
 clear HB0
 clear Kb b0 b1 b2 b3 b4 b5 b6 b7 b8 Ks s0 s1 Kp p0 p1
 have HB:=Hh (fun W' (hb:Below W0.heap.size W0 W')=>hB0.trans (hb.mono hB0.size))
 by_cases he:e1≠0∨e2≠0
 ·have tE:e1=0→¬ e2=0:=fun h1 h2=>by omega
  by_cases hee:e1=e2
  ·have d3:(e1 == e2)=true:=beq_iff_eq.2 hee
   have hn1:¬ e1=0:=by omega
   have d1:(e1 != 0)=true:=by rw [bne_iff_ne];exact hn1
   have d1':(e1 == 0)=false:=beq_eq_false_iff_ne.2 hn1
   have HRES:=Hh (show addL O PR=O by rw [HPR.out,partN_e he,if_pos hee];rfl)
   have HO9:=Hh (Zz8 HOW.out (HB.out _ hb2))
   clear hee tE
   go_wp2
   go_ret
   exact ⟨_,rfl,by rw [HRES.out];exact HO9.out,(HB.out _ hb2).mono hbw⟩
  have d3:(e1 == e2)=false:=beq_eq_false_iff_ne.2 hee
  have HRES0:=Hh (show PR=[⟨fr,to⟩] by rw [HPR.out,partN_e he,if_neg hee])
  by_cases hn1:e1=0
  ·subst hn1
   have hn2:¬ e2=0:=by omega
   have d1:(e2 != 0)=true:=by rw [bne_iff_ne];exact hn2
   have d1':(e2 == 0)=false:=beq_eq_false_iff_ne.2 hn2
   clear he hee tE hn2
   have HRES:=Hh (show addL O PR=addS O ⟨fr,to⟩ by rw [HRES0.out];rfl)
   have HO9:=Hh (Zz8 HOW.out (HB.out _ hb2))
   have Ks:=KI.out.below hb2 KI.out.lt
   have s0:=Ks.cl 0 _ rfl
   have s1:=Ks.cl 1 _ rfl
   go_wp2_with fail
   refine (ZzT O ⟨fr,to⟩ _ base _ (by omega) (nLt hbw (HB.out _ hb2).size) HO9.out).mono ?_
   rintro e w8 ⟨v8,rfl,o8,hb8,_⟩
   go_wp2
   go_ret
   exact ⟨_,rfl,by rw [HRES.out];exact o8,((HB.out _ hb2).mono hbw).trans hb8⟩
  have d1:(e1 != 0)=true:=by rw [bne_iff_ne];exact hn1
  have d1':(e1 == 0)=false:=beq_eq_false_iff_ne.2 hn1
  clear he hee tE hn1
  have HRES:=Hh (show addL O PR=addS O ⟨fr,to⟩ by rw [HRES0.out];rfl)
  have HO9:=Hh (Zz8 HOW.out (HB.out _ hb2))
  have Ks:=KI.out.below hb2 KI.out.lt
  have s0:=Ks.cl 0 _ rfl
  have s1:=Ks.cl 1 _ rfl
  go_wp2_with fail
  refine (ZzT O ⟨fr,to⟩ _ base _ (by omega) (nLt hbw (HB.out _ hb2).size) HO9.out).mono ?_
  rintro e w8 ⟨v8,rfl,o8,hb8,_⟩
  go_wp2
  go_ret
  exact ⟨_,rfl,by rw [HRES.out];exact o8,((HB.out _ hb2).mono hbw).trans hb8⟩
 obtain rfl:e1=0:=by omega
 obtain rfl:e2=0:=by omega
 clear he j1 j2
 by_cases h4:1<to-fr
 ·have d4:decide (1<to-fr)=true:=dTt h4
  have HA1:=HA1.out h4
  have HB1:=HB1.out h4
  rw [ra1 h4] at HA1
  rw [rb1 h4] at HB1
  rw [ra1 h4,rb1 h4] at HPR
  dsimp only at HPR HA1 HB1
  have HA1:=Hh HA1
  have HB1:=Hh HB1
  clear ra1 rb1
  have Ka:=KA.out.below hb2 KA.out.lt
  have a0:=Ka.cl 0 _ rfl
  have a1:=Ka.cl 1 _ rfl
  have a2:=Ka.cl 2 _ rfl
  have a3:=Ka.cl 3 _ rfl
  have a4:=Ka.cl 4 _ rfl
  have a5:=Ka.cl 5 _ rfl
  have a6:=Ka.cl 6 _ rfl
  have a7:=Ka.cl 7 _ rfl
  have a8:=Ka.cl 8 _ rfl
  have Ks:=KI.out.below hb2 KI.out.lt
  have s0:=Ks.cl 0 _ rfl
  have s1:=Ks.cl 1 _ rfl
  have Kp:=KP.out.below hb2 KP.out.lt
  have p0:=Kp.cl 0 _ rfl
  have p1:=Kp.cl 1 _ rfl
  go_wp2_with fail
  refine (HA1.out _ (HB.out _ hb2)).mono ?_
  rintro e w3 ⟨rfl,hb3⟩
  have hb3:=hb2.trans (hb3.mono hb2.size)
  clear HA1
  clear Ka a0 a1 a2 a3 a4 a5 a6 a7 a8 Ks s0 s1 Kp p0 p1
  have Kb:=KB.out.below hb3 KB.out.lt
  have b0:=Kb.cl 0 _ rfl
  have b1:=Kb.cl 1 _ rfl
  have b2:=Kb.cl 2 _ rfl
  have b3:=Kb.cl 3 _ rfl
  have b4:=Kb.cl 4 _ rfl
  have b5:=Kb.cl 5 _ rfl
  have b6:=Kb.cl 6 _ rfl
  have b7:=Kb.cl 7 _ rfl
  have b8:=Kb.cl 8 _ rfl
  have Ks:=KI.out.below hb3 KI.out.lt
  have s0:=Ks.cl 0 _ rfl
  have s1:=Ks.cl 1 _ rfl
  have Kp:=KP.out.below hb3 KP.out.lt
  have p0:=Kp.cl 0 _ rfl
  have p1:=Kp.cl 1 _ rfl
  go_wp2_with fail
  refine (HB1.out _ (HB.out _ hb3)).mono ?_
  rintro e w4 ⟨rfl,hb4⟩
  have hb4:=hb3.trans (hb4.mono hb3.size)
  clear HB1
  clear Kb b0 b1 b2 b3 b4 b5 b6 b7 b8 Ks s0 s1 Kp p0 p1
  rcases k1 with rfl|rfl
  ·rcases k2 with rfl|rfl
   ·skip
    by_cases hv:u1=u2
    ·have d5:(u1 == u2)=true:=beq_iff_eq.2 hv
     have HRES:=Hh (show addL O PR=O by rw [HPR.out,Zz3I (by rw [if_pos h4];omega),if_pos hv];rfl)
     have HO9:=Hh (Zz8 HOW.out (HB.out _ hb4))
     go_wp2
     go_ret
     exact ⟨_,rfl,by rw [HRES.out];exact HO9.out,(HB.out _ hb4).mono hbw⟩
    have d5:(u1 == u2)=false:=beq_eq_false_iff_ne.2 hv
    have HRES:=Hh (show addL O PR=addS O ⟨fr,to⟩ by rw [HPR.out,Zz3I (by rw [if_pos h4];omega),if_neg hv];rfl)
    have HO9:=Hh (Zz8 HOW.out (HB.out _ hb4))
    have Ks:=KI.out.below hb4 KI.out.lt
    have s0:=Ks.cl 0 _ rfl
    have s1:=Ks.cl 1 _ rfl
    go_wp2_with fail
    refine (ZzT O ⟨fr,to⟩ _ base _ (by omega) (nLt hbw (HB.out _ hb4).size) HO9.out).mono ?_
    rintro e w8 ⟨v8,rfl,o8,hb8,_⟩
    go_wp2
    go_ret
    exact ⟨_,rfl,by rw [HRES.out];exact o8,((HB.out _ hb4).mono hbw).trans hb8⟩
   skip
   obtain ⟨E,hE⟩:∃ E,fr+(u1-u2)=E:=⟨_,rfl⟩
   have HPR:=Hh (HPR.out.trans (partN_c (sl:=-1) (E:=E) (by rw [if_pos h4];omega) (by decide) (by omega)))
   have hq:(u2-u1) * -(u2+1-u2)=u1-u2:=by rw [show u2+1-u2=1 by omega];omega
   by_cases r1:E<fr
   ·have d1:decide (E<fr)=true:=dTt r1
    have HRES:=Hh (show addL O PR=addS O ⟨fr,to⟩ by rw [HPR.out,if_pos (.inl r1)];rfl)
    have HO9:=Hh (Zz8 HOW.out (HB.out _ hb4))
    have Ks:=KI.out.below hb4 KI.out.lt
    have s0:=Ks.cl 0 _ rfl
    have s1:=Ks.cl 1 _ rfl
    go_wp2_with fail
    refine (ZzT O ⟨fr,to⟩ _ base _ (by omega) (nLt hbw (HB.out _ hb4).size) HO9.out).mono ?_
    rintro e w8 ⟨v8,rfl,o8,hb8,_⟩
    go_wp2
    go_ret
    exact ⟨_,rfl,by rw [HRES.out];exact o8,((HB.out _ hb4).mono hbw).trans hb8⟩
   have d1:decide (E<fr)=false:=dFf r1
   by_cases r2:to≤E
   ·have d2:decide (to≤E)=true:=dTt r2
    have HRES:=Hh (show addL O PR=addS O ⟨fr,to⟩ by rw [HPR.out,if_pos (.inr r2)];rfl)
    have HO9:=Hh (Zz8 HOW.out (HB.out _ hb4))
    have Ks:=KI.out.below hb4 KI.out.lt
    have s0:=Ks.cl 0 _ rfl
    have s1:=Ks.cl 1 _ rfl
    go_wp2_with fail
    refine (ZzT O ⟨fr,to⟩ _ base _ (by omega) (nLt hbw (HB.out _ hb4).size) HO9.out).mono ?_
    rintro e w8 ⟨v8,rfl,o8,hb8,_⟩
    go_wp2
    go_ret
    exact ⟨_,rfl,by rw [HRES.out];exact o8,((HB.out _ hb4).mono hbw).trans hb8⟩
   have d2:decide (to≤E)=false:=dFf r2
   have HPR:=Hh (HPR.out.trans (if_neg (fun h=>h.elim r1 r2)))
   have HO9:=Hh (Zz8 HOW.out (HB.out _ hb4))
   have Ks:=KI.out.below hb4 KI.out.lt
   have s0:=Ks.cl 0 _ rfl
   have s1:=Ks.cl 1 _ rfl
   have hsz9:=nLt hbw (HB.out _ hb4).size
   by_cases r3:fr<E
   ·have d3:decide (fr<E)=true:=dTt r3
    by_cases r4:E+1<to
    ·have d4':decide (E+1<to)=true:=dTt r4
     have HRES:=Hh (show addL O PR=addS (addS O ⟨fr,E⟩) ⟨E+1,to⟩ by rw [HPR.out,if_pos r3,if_pos r4];rfl)
     go_wp2_with fail
     refine (ZzT O ⟨fr,E⟩ _ base _ (by omega) hsz9 HO9.out).mono ?_
     rintro e w8 ⟨v8,rfl,o8,hb8,gr8⟩
     have Kt:=Ks.kept gr8 (fun e=>hni e.symm)
     have t1:=Kt.cl 1 _ rfl
     have hal:=Zz6d O ⟨fr,E⟩
     clear Ks s0 s1
     go_wp2_with fail
     refine (ZzT (addS O ⟨fr,E⟩) ⟨E+1,to⟩ _ base _ (by omega) (nLt hsz9 gr8.size) o8).mono ?_
     rintro e w9 ⟨v9,rfl,o9,hb9,_⟩
     go_wp2
     go_ret
     exact ⟨_,rfl,by rw [HRES.out];exact o9,(((HB.out _ hb4).mono hbw).trans hb8).trans hb9⟩
    have d4':decide (E+1<to)=false:=dFf r4
    have HRES:=Hh (show addL O PR=addS O ⟨fr,E⟩ by rw [HPR.out,if_pos r3,if_neg r4];rfl)
    go_wp2_with fail
    refine (ZzT O ⟨fr,E⟩ _ base _ (by omega) hsz9 HO9.out).mono ?_
    rintro e w8 ⟨v8,rfl,o8,hb8,gr8⟩
    have Kt:=Ks.kept gr8 (fun e=>hni e.symm)
    have t1:=Kt.cl 1 _ rfl
    clear Ks s0 s1
    go_wp2
    go_ret
    exact ⟨_,rfl,by rw [HRES.out];exact o8,((HB.out _ hb4).mono hbw).trans hb8⟩
   have d3:decide (fr<E)=false:=dFf r3
   by_cases r4:E+1<to
   ·have d4':decide (E+1<to)=true:=dTt r4
    have HRES:=Hh (show addL O PR=addS O ⟨E+1,to⟩ by rw [HPR.out,if_neg r3,if_pos r4];rfl)
    go_wp2_with fail
    refine (ZzT O ⟨E+1,to⟩ _ base _ (by omega) hsz9 HO9.out).mono ?_
    rintro e w8 ⟨v8,rfl,o8,hb8,_⟩
    go_wp2
    go_ret
    exact ⟨_,rfl,by rw [HRES.out];exact o8,((HB.out _ hb4).mono hbw).trans hb8⟩
   exfalso;omega
  rcases k2 with rfl|rfl
  ·skip
   obtain ⟨E,hE⟩:∃ E,fr+(u2-u1)=E:=⟨_,rfl⟩
   have HPR:=Hh (HPR.out.trans (partN_c (sl:=1) (E:=E) (by rw [if_pos h4];omega) (by decide) (by omega)))
   have hq:(u2-u1)*(u1+1-u1)=u2-u1:=by rw [show u1+1-u1=1 by omega];omega
   by_cases r1:E<fr
   ·have d1:decide (E<fr)=true:=dTt r1
    have HRES:=Hh (show addL O PR=addS O ⟨fr,to⟩ by rw [HPR.out,if_pos (.inl r1)];rfl)
    have HO9:=Hh (Zz8 HOW.out (HB.out _ hb4))
    have Ks:=KI.out.below hb4 KI.out.lt
    have s0:=Ks.cl 0 _ rfl
    have s1:=Ks.cl 1 _ rfl
    go_wp2_with fail
    refine (ZzT O ⟨fr,to⟩ _ base _ (by omega) (nLt hbw (HB.out _ hb4).size) HO9.out).mono ?_
    rintro e w8 ⟨v8,rfl,o8,hb8,_⟩
    go_wp2
    go_ret
    exact ⟨_,rfl,by rw [HRES.out];exact o8,((HB.out _ hb4).mono hbw).trans hb8⟩
   have d1:decide (E<fr)=false:=dFf r1
   by_cases r2:to≤E
   ·have d2:decide (to≤E)=true:=dTt r2
    have HRES:=Hh (show addL O PR=addS O ⟨fr,to⟩ by rw [HPR.out,if_pos (.inr r2)];rfl)
    have HO9:=Hh (Zz8 HOW.out (HB.out _ hb4))
    have Ks:=KI.out.below hb4 KI.out.lt
    have s0:=Ks.cl 0 _ rfl
    have s1:=Ks.cl 1 _ rfl
    go_wp2_with fail
    refine (ZzT O ⟨fr,to⟩ _ base _ (by omega) (nLt hbw (HB.out _ hb4).size) HO9.out).mono ?_
    rintro e w8 ⟨v8,rfl,o8,hb8,_⟩
    go_wp2
    go_ret
    exact ⟨_,rfl,by rw [HRES.out];exact o8,((HB.out _ hb4).mono hbw).trans hb8⟩
   have d2:decide (to≤E)=false:=dFf r2
   have HPR:=Hh (HPR.out.trans (if_neg (fun h=>h.elim r1 r2)))
   have HO9:=Hh (Zz8 HOW.out (HB.out _ hb4))
   have Ks:=KI.out.below hb4 KI.out.lt
   have s0:=Ks.cl 0 _ rfl
   have s1:=Ks.cl 1 _ rfl
   have hsz9:=nLt hbw (HB.out _ hb4).size
   by_cases r3:fr<E
   ·have d3:decide (fr<E)=true:=dTt r3
    by_cases r4:E+1<to
    ·have d4':decide (E+1<to)=true:=dTt r4
     have HRES:=Hh (show addL O PR=addS (addS O ⟨fr,E⟩) ⟨E+1,to⟩ by rw [HPR.out,if_pos r3,if_pos r4];rfl)
     go_wp2_with fail
     refine (ZzT O ⟨fr,E⟩ _ base _ (by omega) hsz9 HO9.out).mono ?_
     rintro e w8 ⟨v8,rfl,o8,hb8,gr8⟩
     have Kt:=Ks.kept gr8 (fun e=>hni e.symm)
     have t1:=Kt.cl 1 _ rfl
     have hal:=Zz6d O ⟨fr,E⟩
     clear Ks s0 s1
     go_wp2_with fail
     refine (ZzT (addS O ⟨fr,E⟩) ⟨E+1,to⟩ _ base _ (by omega) (nLt hsz9 gr8.size) o8).mono ?_
     rintro e w9 ⟨v9,rfl,o9,hb9,_⟩
     go_wp2
     go_ret
     exact ⟨_,rfl,by rw [HRES.out];exact o9,(((HB.out _ hb4).mono hbw).trans hb8).trans hb9⟩
    have d4':decide (E+1<to)=false:=dFf r4
    have HRES:=Hh (show addL O PR=addS O ⟨fr,E⟩ by rw [HPR.out,if_pos r3,if_neg r4];rfl)
    go_wp2_with fail
    refine (ZzT O ⟨fr,E⟩ _ base _ (by omega) hsz9 HO9.out).mono ?_
    rintro e w8 ⟨v8,rfl,o8,hb8,gr8⟩
    have Kt:=Ks.kept gr8 (fun e=>hni e.symm)
    have t1:=Kt.cl 1 _ rfl
    clear Ks s0 s1
    go_wp2
    go_ret
    exact ⟨_,rfl,by rw [HRES.out];exact o8,((HB.out _ hb4).mono hbw).trans hb8⟩
   have d3:decide (fr<E)=false:=dFf r3
   by_cases r4:E+1<to
   ·have d4':decide (E+1<to)=true:=dTt r4
    have HRES:=Hh (show addL O PR=addS O ⟨E+1,to⟩ by rw [HPR.out,if_neg r3,if_pos r4];rfl)
    go_wp2_with fail
    refine (ZzT O ⟨E+1,to⟩ _ base _ (by omega) hsz9 HO9.out).mono ?_
    rintro e w8 ⟨v8,rfl,o8,hb8,_⟩
    go_wp2
    go_ret
    exact ⟨_,rfl,by rw [HRES.out];exact o8,((HB.out _ hb4).mono hbw).trans hb8⟩
   exfalso;omega
  skip
  by_cases hv:u1=u2
  ·have d5:(u1 == u2)=true:=beq_iff_eq.2 hv
   have HRES:=Hh (show addL O PR=O by rw [HPR.out,Zz3I (by rw [if_pos h4];omega),if_pos hv];rfl)
   have HO9:=Hh (Zz8 HOW.out (HB.out _ hb4))
   go_wp2
   go_ret
   exact ⟨_,rfl,by rw [HRES.out];exact HO9.out,(HB.out _ hb4).mono hbw⟩
  have d5:(u1 == u2)=false:=beq_eq_false_iff_ne.2 hv
  have HRES:=Hh (show addL O PR=addS O ⟨fr,to⟩ by rw [HPR.out,Zz3I (by rw [if_pos h4];omega),if_neg hv];rfl)
  have HO9:=Hh (Zz8 HOW.out (HB.out _ hb4))
  have Ks:=KI.out.below hb4 KI.out.lt
  have s0:=Ks.cl 0 _ rfl
  have s1:=Ks.cl 1 _ rfl
  go_wp2_with fail
  refine (ZzT O ⟨fr,to⟩ _ base _ (by omega) (nLt hbw (HB.out _ hb4).size) HO9.out).mono ?_
  rintro e w8 ⟨v8,rfl,o8,hb8,_⟩
  go_wp2
  go_ret
  exact ⟨_,rfl,by rw [HRES.out];exact o8,((HB.out _ hb4).mono hbw).trans hb8⟩
 have d4:decide (1<to-fr)=false:=dFf h4
 clear HA1 HB1 ra1 rb1
 have Ks:=KI.out.below hb2 KI.out.lt
 have s0:=Ks.cl 0 _ rfl
 have s1:=Ks.cl 1 _ rfl
 clear Ks
 by_cases hv:u1=u2
 ·have d5:(u1 == u2)=true:=beq_iff_eq.2 hv
  have HRES:=Hh (show addL O PR=O by rw [HPR.out,Zz3I (if_neg h4),if_pos hv];rfl)
  have HO9:=Hh (Zz8 HOW.out (HB.out _ hb2))
  go_wp2
  go_ret
  exact ⟨_,rfl,by rw [HRES.out];exact HO9.out,(HB.out _ hb2).mono hbw⟩
 have d5:(u1 == u2)=false:=beq_eq_false_iff_ne.2 hv
 have HRES:=Hh (show addL O PR=addS O ⟨fr,to⟩ by rw [HPR.out,Zz3I (if_neg h4),if_neg hv];rfl)
 have HO9:=Hh (Zz8 HOW.out (HB.out _ hb2))
 go_wp2_with fail
 refine (ZzT O ⟨fr,to⟩ _ base _ (by omega) (nLt hbw (HB.out _ hb2).size) HO9.out).mono ?_
 rintro e w8 ⟨v8,rfl,o8,hb8,_⟩
 go_wp2
 go_ret
 exact ⟨_,rfl,by rw [HRES.out];exact o8,((HB.out _ hb2).mono hbw).trans hb8⟩
/- The reference of layer 24: Locals. Printed by gen_ref24m.py. -/
theorem runsG_drop (h:Spn→List Spn) {L:List Int} {k:Nat} (hk:k+1<L.length) (O:List Spn):runsG h (L.drop k) O=runsG h (L.drop (k+1)) (addL O (h ⟨L[k]!,L[k+1]!⟩)):=by
 rw [List.drop_eq_getElem_cons (show k<L.length by omega),List.drop_eq_getElem_cons hk,runsG,getElem!_pos L k (by omega),getElem!_pos L (k+1) hk]
theorem runsG_end (h:Spn→List Spn) {L:List Int} {k:Nat} (hk:L.length≤k+1) (O:List Spn):runsG h (L.drop k) O=O:=by
 have h1:(L.drop k).length≤1:=by rw [List.length_drop];omega
 match L.drop k,h1 with
 | [],_=>rfl
 | [_],_=>rfl
theorem Zz3X (z:Zn) (a b:Int):(cutS z a b).length≤2+4*(z.betF (cutA a) (cutB b)).length:=by
 unfold cutS
 rw [List.length_map]
 have h1:=List.length_filter_le (fun c=>decide (a<c∧c<b)) (z.cutsR a b)
 have h2:(z.cutsR a b).length=2+4*(z.betF (cutA a) (cutB b)).length:=by
  unfold Zn.cutsR
  rw [List.length_append,Zz1i]
  rfl
 omega
theorem pair_shape {za zb:Zn} (ha:za.valid=true) (hb:zb.valid=true) {a b:Int} (h1 : -62135596800≤a) (hab:a<b) (h2:b≤253402300800) (g f:Int) {k:Nat} (hk:k+1<(endsI (endsL za zb a b) []).length) :
  (a≤(endsI (endsL za zb a b) [])[k]! ∧ (endsI (endsL za zb a b) [])[k]! < (endsI (endsL za zb a b) [])[k+1]! ∧ (endsI (endsL za zb a b) [])[k+1]! ≤ b) ∧
  Shape (fun y=>za.resV y g f) (endsI (endsL za zb a b) [])[k]! (endsI (endsL za zb a b) [])[k+1]! ∧ Shape (fun y=>zb.resV y g f) (endsI (endsL za zb a b) [])[k]! (endsI (endsL za zb a b) [])[k+1]! := by
 have hasc:=Zz24 (S:=endsL za zb a b) (l:=[]) List.Pairwise.nil
 have hmem:=fun y=>Zz6w (za:=za) (zb:=zb) (a:=a) (b:=b) (y:=y)
 have hbd:∀ y∈endsI (endsL za zb a b) [],a≤y∧y≤b:=fun y hy=>by
  rcases (hmem y).1 hy with h|h|h <;> omega
 generalize endsI (endsL za zb a b) []=L at *
 have hlt:=asc_next hasc hk
 have m1:L[k]! ∈ L:=by rw [getElem!_pos L k (by omega)];exact List.getElem_mem _
 have m2:L[k+1]! ∈ L:=by rw [getElem!_pos L (k+1) hk];exact List.getElem_mem _
 have b1:=hbd _ m1
 have b2:=hbd _ m2
 have hno:∀ c∈L,¬ (L[k]! < c∧c<L[k+1]!):=fun c hc hx=>by
  obtain ⟨j,hj,rfl⟩:=List.mem_iff_getElem.1 hc
  rw [getElem!_pos L k (by omega),getElem!_pos L (k+1) hk] at hx
  have hp:=List.pairwise_iff_getElem.1 hasc
  have hkj:k<j:=by
   rcases Nat.lt_or_ge k j with h|h
   ·exact h
   rcases Nat.lt_or_ge j k with h3|h3
   ·have:=hp j k hj (by omega) h3;omega
   have e:j=k:=by omega
   subst e;omega
  rcases Nat.lt_or_ge (k+1) j with h|h
  ·have:=hp (k+1) j hk hj h;omega
  have e:j=k+1:=by omega
  subst e;omega
 have q:∀ z:Zn,z.valid=true→(∀ y∈z.cutsR a b,a<y∧y<b→y∈L)→Quiet z a b L[k]! L[k+1]! := fun z hz hc=>⟨hz,h1,h2,b1.1,b2.2,fun c hcc hx=>hno c (hc c hcc (by omega)) hx⟩
 exact ⟨⟨b1.1,hlt,b2.2⟩,Zz1P (q za ha fun y hy hlt=>(hmem y).2 (.inr (.inr ⟨hlt,.inl hy⟩))) g f,Zz1P (q zb hb fun y hy hlt=>(hmem y).2 (.inr (.inr ⟨hlt,.inr hy⟩))) g f⟩
set_option maxRecDepth 100000 in
set_option maxHeartbeats 2000000 in
theorem r24_Locals (za:Zn) (vTa vRa:Value) (zb:Zn) (vTb vRb:Value) (a b g f:Int) (w:World) (hTa:Rd Trn.cells 4 w vTa za.table) (hRa:Rd Rule.cells 11 w vRa za.tail) (hTb:Rd Trn.cells 4 w vTb zb.table) (hRb:Rd Rule.cells 11 w vRb zb.tail) (hfa:za.form.size≤2000000) (hfb:zb.form.size≤2000000) (hla:za.tail.length≤12) (hlb:zb.tail.length≤12) (hta:za.table.length≤1000) (htb:zb.table.length≤1000) (hva:za.valid=true) (hvb:zb.valid=true) (hp:polB g f=true) (hsp:spanV a b=true) (hab:b-a≤3000000000) (hca:∀ l,(za.betF (cutA l) (cutB (l+1))).length≤1000) (hcb:∀ l,(zb.betF (cutA l) (cutB (l+1))).length≤1000) (hda:(za.betF (cutA a) (cutB b)).length≤110) (hdb:(zb.betF (cutA a) (cutB b)).length≤110) :
  Calls Tryz.prog 15 #[za.v vTa vRa,zb.v vTb vRb,.agg #[A B a,A B b],.agg #[A B g,A B f]] w fun e w'=>∃ v,e=.returned (.tuple #[v,A B 0])∧Rd encN 2 w' v (locR za zb g f a b)∧Below w.heap.size w w':=by
 have hsb : -62135596800≤a∧a<b∧b≤253402300800:=by
  unfold spanV at hsp
  simp at hsp
  omega
 have HCA:=Hh (fun S v base W h1 (hb:Below w.heap.size w W) hbw ho=>r24_cuts za vTa vRa S v base a b W (hTa.on hb) (hRa.on hb) hfa hla hta hva hsb.1 hsb.2.1 hsb.2.2 hab (by omega) h1 hbw ho)
 have HCB:=Hh (fun S v base W h1 (hb:Below w.heap.size w W) hbw ho=>r24_cuts zb vTb vRb S v base a b W (hTb.on hb) (hRb.on hb) hfb hlb htb hvb hsb.1 hsb.2.1 hsb.2.2 hab (by omega) h1 hbw ho)
 have HDF:=Hh (fun O v base fr to W q1 q2 q3 s1 s2 h1 (hb:Below w.heap.size w W) hbw ho=>r24_differ za vTa vRa zb vTb vRb O v base fr to g f W (hTa.on hb) (hRa.on hb) (hTb.on hb) (hRb.on hb) hfa hfb hla hlb hta htb hva hvb hp q1 q2 q3 s1 s2 hca hcb h1 hbw ho)
 have HPS:=Hh (fun k=>pair_shape hva hvb hsb.1 hsb.2.1 hsb.2.2 g f (k:=k))
 have hSl:(endsL za zb a b).length≤885:=by
  have h1:=Zz3X za a b
  have h2:=Zz3X zb a b
  unfold endsL
  rw [List.length_append,List.length_cons]
  omega
 have HES:=Hh (show ([⟨a,b⟩]++cutS za a b)++cutS zb a b=endsL za zb a b from rfl)
 have HLR:=Hh (show locR za zb g f a b=runsG (partR (fun y=>za.resV y g f) (fun y=>zb.resV y g f)) (endsI (endsL za zb a b) []) [] from rfl)
 have hca1:=Zz3X za a b
 have hLl:(endsI (endsL za zb a b) []).length≤886:=by
  have h1:=endsL_len za zb a b
  have h2:=Zz3X zb a b
  omega
 obtain ⟨AT,cT,rfl⟩:=Zzb hTa
 obtain ⟨AR,cR,rfl⟩:=Zzb hRa
 obtain ⟨AU,cU,rfl⟩:=Zzb hTb
 obtain ⟨AS,cS,rfl⟩:=Zzb hRb
 have KA:=Hh ((((Blk.new w #[C za.nm,A B za.first.off,A B za.first.sv,C za.first.nm,D AT za.table.length cT,D AR za.tail.length cR,A B za.off,C za.form,A B za.year] 27).alloc (G #[C zb.nm,A B zb.first.off,A B zb.first.sv,C zb.first.nm,D AU zb.table.length cU,D AS zb.tail.length cS,A B zb.off,C zb.form,A B zb.year] 27)).alloc (G #[A B a,A B b] 29)).alloc (G #[A B g,A B f] 44))
 have kb:=((Blk.new (w.alloc (G #[C za.nm,A B za.first.off,A B za.first.sv,C za.first.nm,D AT za.table.length cT,D AR za.tail.length cR,A B za.off,C za.form,A B za.year] 27)) #[C zb.nm,A B zb.first.off,A B zb.first.sv,C zb.first.nm,D AU zb.table.length cU,D AS zb.tail.length cS,A B zb.off,C zb.form,A B zb.year] 27).alloc (G #[A B a,A B b] 29)).alloc (G #[A B g,A B f] 44)
 have ki:=(Blk.new ((w.alloc (G #[C za.nm,A B za.first.off,A B za.first.sv,C za.first.nm,D AT za.table.length cT,D AR za.tail.length cR,A B za.off,C za.form,A B za.year] 27)).alloc (G #[C zb.nm,A B zb.first.off,A B zb.first.sv,C zb.first.nm,D AU zb.table.length cU,D AS zb.tail.length cS,A B zb.off,C zb.form,A B zb.year] 27)) #[A B a,A B b] 29).alloc (G #[A B g,A B f] 44)
 have kp:=Blk.new (((w.alloc (G #[C za.nm,A B za.first.off,A B za.first.sv,C za.first.nm,D AT za.table.length cT,D AR za.tail.length cR,A B za.off,C za.form,A B za.year] 27)).alloc (G #[C zb.nm,A B zb.first.off,A B zb.first.sv,C zb.first.nm,D AU zb.table.length cU,D AS zb.tail.length cS,A B zb.off,C zb.form,A B zb.year] 27)).alloc (G #[A B a,A B b] 29)) #[A B g,A B f] 44
 simp only [World.size_alloc] at kb ki kp
 have hB0:Below w.heap.size w ((((w.alloc (G #[C za.nm,A B za.first.off,A B za.first.sv,C za.first.nm,D AT za.table.length cT,D AR za.tail.length cR,A B za.off,C za.form,A B za.year] 27)).alloc (G #[C zb.nm,A B zb.first.off,A B zb.first.sv,C zb.first.nm,D AU zb.table.length cU,D AS zb.tail.length cS,A B zb.off,C zb.form,A B zb.year] 27)).alloc (G #[A B a,A B b] 29)).alloc (G #[A B g,A B f] 44)):=(((bLR.alloc nlR _).alloc (by simp) _).alloc (by simp;omega) _).alloc (by simp;omega) _
 have KB:=Hh kb
 have KI:=Hh ki
 have KP:=Hh kp
 have HZ0:=Hh (show ((((w.alloc (G #[C za.nm,A B za.first.off,A B za.first.sv,C za.first.nm,D AT za.table.length cT,D AR za.tail.length cR,A B za.off,C za.form,A B za.year] 27)).alloc (G #[C zb.nm,A B zb.first.off,A B zb.first.sv,C zb.first.nm,D AU zb.table.length cU,D AS zb.tail.length cS,A B zb.off,C zb.form,A B zb.year] 27)).alloc (G #[A B a,A B b] 29)).alloc (G #[A B g,A B f] 44)).heap.size=w.heap.size+1+1+1+1 by simp)
 clear hTa hRa hTb hRb hva hvb hfa hfb kb ki kp hp hca hcb hsp
 unfold Zn.v at HCA HCB HDF ⊢
 go_enter Tryz.func15,Tryz.ntmps15
 go_wp2_with fail
 generalize ((((w.alloc (G #[C za.nm,A B za.first.off,A B za.first.sv,C za.first.nm,D AT za.table.length cT,D AR za.tail.length cR,A B za.off,C za.form,A B za.year] 27)).alloc (G #[C zb.nm,A B zb.first.off,A B zb.first.sv,C zb.first.nm,D AU zb.table.length cU,D AS zb.tail.length cS,A B zb.off,C zb.form,A B zb.year] 27)).alloc (G #[A B a,A B b] 29)).alloc (G #[A B g,A B f] 44))=W0 at *
 have hW0:Below W0.heap.size W0 W0:=Below.refl _ _
 have hW1:=Zz6 W0 (G #[A B a,A B b] 29)
 have HO1:=Hh (show (W0.alloc (G #[A B a,A B b] 29)).ownsRow W0.heap.size 29 2 (D (some ⟨w.heap.size+1+1+1+1,0,F⟩) 1 1) [(⟨a,b⟩:Spn)].length ([(⟨a,b⟩:Spn)].flatMap encN) from by rw [←HZ0.out];exact World.ownsRow_lit (base:=W0.heap.size) W0 #[A B a,A B b] 1 nlR (by decide) rfl)
 have Ka:=KA.out.below hW0 KA.out.lt
 have a0:=Ka.cl 0 _ rfl
 have a1:=Ka.cl 1 _ rfl
 have a2:=Ka.cl 2 _ rfl
 have a3:=Ka.cl 3 _ rfl
 have a4:=Ka.cl 4 _ rfl
 have a5:=Ka.cl 5 _ rfl
 have a6:=Ka.cl 6 _ rfl
 have a7:=Ka.cl 7 _ rfl
 have a8:=Ka.cl 8 _ rfl
 have Ks:=KI.out.below hW0 KI.out.lt
 have s0:=Ks.cl 0 _ rfl
 have s1:=Ks.cl 1 _ rfl
 have Ka2:=KA.out.below hW1 KA.out.lt
 have Ks2:=KI.out.below hW1 KI.out.lt
 have c0:=Ka2.cl 0 _ rfl
 have c1:=Ka2.cl 1 _ rfl
 have c2:=Ka2.cl 2 _ rfl
 have c3:=Ka2.cl 3 _ rfl
 have c4:=Ka2.cl 4 _ rfl
 have c5:=Ka2.cl 5 _ rfl
 have c6:=Ka2.cl 6 _ rfl
 have c7:=Ka2.cl 7 _ rfl
 have c8:=Ka2.cl 8 _ rfl
 have d0:=Ks2.cl 0 _ rfl
 have d1:=Ks2.cl 1 _ rfl
 go_wp2_with fail
 generalize W0.alloc (G #[A B a,A B b] 29)=W1 at *
 refine (HCA.out [⟨a,b⟩] _ W0.heap.size W1 (by simp) (hB0.trans (hW1.mono hB0.size)) hW1.size HO1.out).mono ?_
 rintro e w2 ⟨v2,rfl,o2,hb2⟩
 have hb2:=hW1.trans hb2
 have HO2:=Hh o2
 have hl2:([(⟨a,b⟩:Spn)]++cutS za a b).length≤1000:=by rw [List.length_append,List.length_singleton];omega
 generalize [(⟨a,b⟩:Spn)]++cutS za a b=S2 at *
 obtain ⟨A2,cc2,rfl⟩:=Zzh o2
 clear o2 HCA HO1 hW1 Ka2 Ks2 c0 c1 c2 c3 c4 c5 c6 c7 c8 d0 d1
 clear Ka a0 a1 a2 a3 a4 a5 a6 a7 a8 Ks s0 s1
 have Kb:=KB.out.below hb2 KB.out.lt
 have b0:=Kb.cl 0 _ rfl
 have b1:=Kb.cl 1 _ rfl
 have b2:=Kb.cl 2 _ rfl
 have b3:=Kb.cl 3 _ rfl
 have b4:=Kb.cl 4 _ rfl
 have b5:=Kb.cl 5 _ rfl
 have b6:=Kb.cl 6 _ rfl
 have b7:=Kb.cl 7 _ rfl
 have b8:=Kb.cl 8 _ rfl
 have Ks:=KI.out.below hb2 KI.out.lt
 have s0:=Ks.cl 0 _ rfl
 have s1:=Ks.cl 1 _ rfl
 go_wp2_with fail
 refine (HCB.out _ _ W0.heap.size w2 (by omega) (hB0.trans (hb2.mono hB0.size)) hb2.size HO2.out).mono ?_
 rintro e w3 ⟨v3,rfl,o3,hb3⟩
 have hb3:=hb2.trans hb3
 rw [HES.out] at o3
 have HO3:=Hh o3
 have HRS:=Hh (Zz7 Zzy o3 rfl)
 obtain ⟨A3,cc3,rfl⟩:=Zzh o3
 clear o3 HCB HO2 hb2
 clear Kb b0 b1 b2 b3 b4 b5 b6 b7 b8 Ks s0 s1
 have hasc:=Zz24 (S:=endsL za zb a b) (l:=[]) List.Pairwise.nil
 generalize endsL za zb a b=SS at *
 go_wp2_with fail
 refine (r12_Ends SS _ _ HRS.out (by omega)).mono ?_
 rintro e w6 ⟨v6,rfl,n6,hb6⟩
 generalize endsI SS []=L at *
 have hb6:=hb3.trans (hb6.mono hb3.size)
 have HR6:=Hh n6.rd
 obtain ⟨A6,c6,rfl⟩:=Zzb HR6.out
 have KA:=Hh (KA.out.below hb6 KA.out.lt)
 have KB:=Hh (KB.out.below hb6 KB.out.lt)
 have KP:=Hh (KP.out.below hb6 KP.out.lt)
 have hB60:=hB0.trans (hb6.mono hB0.size)
 generalize hPP:partR (fun y=>za.resV y g f) (fun y=>zb.resV y g f)=PP at *
 have hPl:∀ s,(PP s).length≤2:=fun s=>by rw [←hPP];exact partR_len _ _ s
 have HPL:=Hh hPl
 clear n6 hasc HO3 HRS hb3 hb6 KI hPl hPP
 go_wp2_with fail
 go_loopw [13,14] (fun v13 vi wr=>∃ (k:Nat) (O:List Spn),k≤L.length-1∧vi=A B k∧O.length≤2*k∧wr.ownsRow w6.heap.size 29 2 v13 O.length (O.flatMap encN)∧Below w6.heap.size w6 wr∧Hid (runsG PP L []=runsG PP (L.drop k) O)) (fun _ vi _=>L.length-(intOf vi).toNat)
 case atStart=>exact ⟨0,[],Nat.zero_le _,rfl,Nat.le_refl _,⟨rfl,.inl ⟨rfl,rfl⟩⟩,Below.refl _ _,Hh rfl⟩
 case round =>
  obtain ⟨k,O,hk,rfl,hOk,hown,hbr,HRU⟩:=hrel
  have HOW:=Hh hown
  have HBR:=Hh hbr
  obtain ⟨A7,c7,rfl⟩:=Zzh hown
  by_cases hlt:k+1<L.length
  ·have hlt1:(k:Int)+1<(L.length:Int):=by omega
   obtain ⟨⟨x1,x2,x3⟩,sh1,sh2⟩:=HPS.out k hlt
   have HSTEP:=Hh (runsG_drop PP hlt O)
   have hal:=addL_len (PP ⟨L[k]!,L[k+1]!⟩) O
   have hpl:=HPL.out ⟨L[k]!,L[k+1]!⟩
   obtain ⟨gE,oE,hAE,hgE,hcE⟩:=Zz5a HR6.out (by omega)
   have f0:=hcE wr hbr k (by omega)
   have f1:=hcE wr hbr (k+1) hlt
   have hgr:=nLl hgE hbr.size
   have hE0:=fun w' (hb:Below w6.heap.size w6 w')=>hcE w' hb k (by omega)
   have hE1:=fun w' (hb:Below w6.heap.size w6 w')=>hcE w' hb (k+1) hlt
   obtain ⟨x,hx⟩:∃ x,L[k]! = x:=⟨_,rfl⟩
   obtain ⟨y,hy⟩:∃ y,L[k+1]! = y:=⟨_,rfl⟩
   rw [hx] at x1 x2 sh1 sh2 HSTEP hal hpl f0 hE0
   rw [hy] at x2 x3 sh1 sh2 HSTEP hal hpl f1 hE1
   clear hx hy
   subst hAE
   have HS2:=Hh (show runsG PP L []=runsG PP (L.drop (k+1)) (addL O (PP ⟨x,y⟩)) by rw [HRU.out,HSTEP.out])
   have HSH1:=Hh sh1
   have HSH2:=Hh sh2
   have hB7:=hB60.trans (hbr.mono hB60.size)
   clear hcE HSTEP HRU hown sh1 sh2
   have hsz:=hbr.size
   have hwk:IntKind.i64.wrap ((k:Int)+1)=(k:Int)+1:=by rw [IntKind.wrap_i64];omega
   have hidx0:(0:Int)≤(k:Int)+1:=by omega
   have hidx1:((k:Int)+1).toNat=k+1:=by omega
   have hk0:(0:Int)≤(k:Int):=by omega
   have hk1:(k:Int)<(L.length:Int):=by omega
   have hdr:Below wr.heap.size wr wr.drew:=Zz1 bLR 1
   have hdr6:Below w6.heap.size w6 wr.drew:=hbr.trans (hdr.mono hsz)
   have HOD:=Hh (Zz8 HOW.out hdr)
   have HDR:=Hh hdr6
   have Ka:=KA.out.below hbr KA.out.lt
   have a0:=Ka.cl 0 _ rfl
   have a1:=Ka.cl 1 _ rfl
   have a2:=Ka.cl 2 _ rfl
   have a3:=Ka.cl 3 _ rfl
   have a4:=Ka.cl 4 _ rfl
   have a5:=Ka.cl 5 _ rfl
   have a6:=Ka.cl 6 _ rfl
   have a7:=Ka.cl 7 _ rfl
   have a8:=Ka.cl 8 _ rfl
   have Kb:=KB.out.below hbr KB.out.lt
   have b0:=Kb.cl 0 _ rfl
   have b1:=Kb.cl 1 _ rfl
   have b2:=Kb.cl 2 _ rfl
   have b3:=Kb.cl 3 _ rfl
   have b4:=Kb.cl 4 _ rfl
   have b5:=Kb.cl 5 _ rfl
   have b6:=Kb.cl 6 _ rfl
   have b7:=Kb.cl 7 _ rfl
   have b8:=Kb.cl 8 _ rfl
   have Kp:=KP.out.below hbr KP.out.lt
   have p0:=Kp.cl 0 _ rfl
   have p1:=Kp.cl 1 _ rfl
   have HS:=Hh (fun w' (hb:Below w6.heap.size w6 w')=>by
    have Ka':=KA.out.below hb KA.out.lt
    have Kb':=KB.out.below hb KB.out.lt
    have Kp':=KP.out.below hb KP.out.lt
    exact And.intro hb (And.intro ((Ka'.cl 0 _ rfl)) (And.intro ((Ka'.cl 1 _ rfl)) (And.intro ((Ka'.cl 2 _ rfl)) (And.intro ((Ka'.cl 3 _ rfl)) (And.intro ((Ka'.cl 4 _ rfl)) (And.intro ((Ka'.cl 5 _ rfl)) (And.intro ((Ka'.cl 6 _ rfl)) (And.intro ((Ka'.cl 7 _ rfl)) (And.intro ((Ka'.cl 8 _ rfl)) (And.intro ((Kb'.cl 0 _ rfl)) (And.intro ((Kb'.cl 1 _ rfl)) (And.intro ((Kb'.cl 2 _ rfl)) (And.intro ((Kb'.cl 3 _ rfl)) (And.intro ((Kb'.cl 4 _ rfl)) (And.intro ((Kb'.cl 5 _ rfl)) (And.intro ((Kb'.cl 6 _ rfl)) (And.intro ((Kb'.cl 7 _ rfl)) (And.intro ((Kb'.cl 8 _ rfl)) (And.intro ((Kp'.cl 0 _ rfl)) (And.intro ((Kp'.cl 1 _ rfl)) (And.intro (hE0 w' hb) ((hE1 w' hb))))))))))))))))))))))))
   go_wp2_with fail
   go_region_held3 (fun w'=>Below w6.heap.size w6 w'∧w'.cell? ⟨w.heap.size,0,F⟩=some (C za.nm)∧w'.cell? ⟨w.heap.size,1,F⟩=some (A B za.first.off)∧w'.cell? ⟨w.heap.size,2,F⟩=some (A B za.first.sv)∧w'.cell? ⟨w.heap.size,3,F⟩=some (C za.first.nm)∧w'.cell? ⟨w.heap.size,4,F⟩=some (D AT za.table.length cT)∧w'.cell? ⟨w.heap.size,5,F⟩=some (D AR za.tail.length cR)∧w'.cell? ⟨w.heap.size,6,F⟩=some (A B za.off)∧w'.cell? ⟨w.heap.size,7,F⟩=some (C za.form)∧w'.cell? ⟨w.heap.size,8,F⟩=some (A B za.year)∧w'.cell? ⟨w.heap.size+1,0,F⟩=some (C zb.nm)∧w'.cell? ⟨w.heap.size+1,1,F⟩=some (A B zb.first.off)∧w'.cell? ⟨w.heap.size+1,2,F⟩=some (A B zb.first.sv)∧w'.cell? ⟨w.heap.size+1,3,F⟩=some (C zb.first.nm)∧w'.cell? ⟨w.heap.size+1,4,F⟩=some (D AU zb.table.length cU)∧w'.cell? ⟨w.heap.size+1,5,F⟩=some (D AS zb.tail.length cS)∧w'.cell? ⟨w.heap.size+1,6,F⟩=some (A B zb.off)∧w'.cell? ⟨w.heap.size+1,7,F⟩=some (C zb.form)∧w'.cell? ⟨w.heap.size+1,8,F⟩=some (A B zb.year)∧w'.cell? ⟨w.heap.size+3,0,F⟩=some (A B g)∧w'.cell? ⟨w.heap.size+3,1,F⟩=some (A B f)∧w'.cell? ⟨gE,oE+k,F⟩=some (A B x)∧w'.cell? ⟨gE,oE+(k+1),F⟩=some (A B y)) (first|exact HS.out _ HDR.out|exact K8|go_keep)
    ((go_at_call 38;refine (HDF.out O _ w6.heap.size x y _ (by omega) (by omega) (by omega) HSH1.out HSH2.out (by omega) (hB7.trans (hdr.mono hB7.size)) (nLt hsz hdr.size) HOD.out).mono ?_;rintro e w8 ⟨v8,rfl,o8,hb8⟩;have B8:=HDR.out.trans hb8;have K8:=HS.out _ B8))
   clear Ka a0 a1 a2 a3 a4 a5 a6 a7 a8 Kb b0 b1 b2 b3 b4 b5 b6 b7 b8 Kp p0 p1 HS hE0 hE1 f0 f1 hwk hidx0 hidx1 hk0 hk1 hdr
   go_wp2
   go_roundw
   case rel=>exact ⟨k+1,addL O (PP ⟨x,y⟩),by omega,by go_num,by omega,o8,B8,HS2⟩
   case measure=>simp [intOf];omega
  have hge:¬ (k:Int)+1<(L.length:Int):=by omega
  have HFIN:=Hh (show runsG PP L []=O by rw [HRU.out,runsG_end _ (by omega)])
  have d5:decide ((2000:Int)<(O.length:Int))=false:=dFf (by omega)
  have hB9:=hB60.trans (hbr.mono hB60.size)
  clear HRU hown hbr
  go_wp2_with fail
  go_ret2
  exact ⟨_,rfl,by rw [HLR.out,HFIN.out];exact Zz7 Zzy HOW.out rfl,hB9⟩
/- The law VersionLocals. Printed by gen_lawvl.py. -/
theorem big_parts2 {z q:Zn} (h:(bigV z || bigV q)=false):(z.table.length≤60∧z.tail.length≤6)∧q.table.length≤60∧q.tail.length≤6:=by
 unfold bigV at h
 simp at h
 omega
set_option maxRecDepth 100000 in
set_option maxHeartbeats 8000000 in
theorem law_VersionLocals (z:Zn) (vTz vRz:Value) (q:Zn) (vTq vRq:Value) (a b g f:Int) (w:World) (hfz:z.form.size≤2000000) (hfq:q.form.size≤2000000) (hTz:Rd Trn.cells 4 w vTz z.table) (hRz:Rd Rule.cells 11 w vRz z.tail) (hTq:Rd Trn.cells 4 w vTq q.table) (hRq:Rd Rule.cells 11 w vRq q.tail) (hm:HasMax w) :
  Calls Tryz.prog 4 #[z.v vTz vRz,q.v vTq vRq,.agg #[A B a,A B b],.agg #[A B g,A B f]] w fun e w'=>e=.returned (.bool true)∧Below w.heap.size w w':=by
 have HA:=Hh (fun W (hb:Below w.heap.size w W)=>Zz7n W (hm.on hb))
 have HL:=Hh (fun W=>long_any a b 4 (by decide) W)
 have HI1:=Hh (fun l1 l2 l3 l4 hs1 hs2 W (hb:Below w.heap.size w W)=>Zz4v z q vTz vRz vTq vRq a b g f W (hm.on hb) (hTz.on hb) (hRz.on hb) (hTq.on hb) (hRq.on hb) (by omega) (by omega) l1 l2 l3 l4 hs1 hs2)
 have HV1:=Hh (fun l W (hb:Below w.heap.size w W)=>ZzE z vTz vRz W (hm.on hb) (hTz.on hb) (hRz.on hb) (by omega) (.inl l))
 have HV2:=Hh (fun l W (hb:Below w.heap.size w W)=>ZzE q vTq vRq W (hm.on hb) (hTq.on hb) (hRq.on hb) (by omega) (.inl l))
 have HSP:=Hh (fun W=>Zz3L a b W)
 have HPV:=Hh (fun W=>Zz3d g f W)
 have HRI:=Hh (fun l1 l2 l3 l4 v1 v2 hp hs hab hc1 hc2 hd1 hd2 W (hb:Below w.heap.size w W)=>r24_Locals z vTz vRz q vTq vRq a b g f W (hTz.on hb) (hRz.on hb) (hTq.on hb) (hRq.on hb) hfz hfq l1 l2 l3 l4 v1 v2 hp hs hab hc1 hc2 hd1 hd2)
 obtain ⟨AT,cT,rfl⟩:=Zzb hTz
 obtain ⟨AR,cR,rfl⟩:=Zzb hRz
 obtain ⟨AU,cU,rfl⟩:=Zzb hTq
 obtain ⟨AS,cS,rfl⟩:=Zzb hRq
 have HG:=Hh (fun g W hg hc=>Zz7p ⟨z,D AT z.table.length cT,D AR z.tail.length cR,⟨_,_,rfl⟩,⟨_,_,rfl⟩⟩ ⟨q,D AU q.table.length cU,D AS q.tail.length cS,⟨_,_,rfl⟩,⟨_,_,rfl⟩⟩ g W hg hc)
 clear hTz hRz hTq hRq hm hfz hfq
 unfold encZ Zn.cellsZ at HG
 dsimp only at HG
 unfold LocEnd at HI1
 have b0:=(((Blk.new w #[C z.nm,A B z.first.off,A B z.first.sv,C z.first.nm,D AT z.table.length cT,D AR z.tail.length cR,A B z.off,C z.form,A B z.year] 27).alloc (G #[C q.nm,A B q.first.off,A B q.first.sv,C q.first.nm,D AU q.table.length cU,D AS q.tail.length cS,A B q.off,C q.form,A B q.year] 27)).alloc (G #[A B a,A B b] 29)).alloc (G #[A B g,A B f] 44)
 have b1:=((Blk.new (w.alloc (G #[C z.nm,A B z.first.off,A B z.first.sv,C z.first.nm,D AT z.table.length cT,D AR z.tail.length cR,A B z.off,C z.form,A B z.year] 27)) #[C q.nm,A B q.first.off,A B q.first.sv,C q.first.nm,D AU q.table.length cU,D AS q.tail.length cS,A B q.off,C q.form,A B q.year] 27).alloc (G #[A B a,A B b] 29)).alloc (G #[A B g,A B f] 44)
 have b2:=(Blk.new ((w.alloc (G #[C z.nm,A B z.first.off,A B z.first.sv,C z.first.nm,D AT z.table.length cT,D AR z.tail.length cR,A B z.off,C z.form,A B z.year] 27)).alloc (G #[C q.nm,A B q.first.off,A B q.first.sv,C q.first.nm,D AU q.table.length cU,D AS q.tail.length cS,A B q.off,C q.form,A B q.year] 27)) #[A B a,A B b] 29).alloc (G #[A B g,A B f] 44)
 have b3:=Blk.new (((w.alloc (G #[C z.nm,A B z.first.off,A B z.first.sv,C z.first.nm,D AT z.table.length cT,D AR z.tail.length cR,A B z.off,C z.form,A B z.year] 27)).alloc (G #[C q.nm,A B q.first.off,A B q.first.sv,C q.first.nm,D AU q.table.length cU,D AS q.tail.length cS,A B q.off,C q.form,A B q.year] 27)).alloc (G #[A B a,A B b] 29)) #[A B g,A B f] 44
 simp only [World.size_alloc] at b1 b2 b3
 have hB3:Below w.heap.size w ((((w.alloc (G #[C z.nm,A B z.first.off,A B z.first.sv,C z.first.nm,D AT z.table.length cT,D AR z.tail.length cR,A B z.off,C z.form,A B z.year] 27)).alloc (G #[C q.nm,A B q.first.off,A B q.first.sv,C q.first.nm,D AU q.table.length cU,D AS q.tail.length cS,A B q.off,C q.form,A B q.year] 27)).alloc (G #[A B a,A B b] 29)).alloc (G #[A B g,A B f] 44)):=(((bLR.alloc nlR _).alloc (by simp) _).alloc (by simp;omega) _).alloc (by simp;omega) _
 unfold Zn.v at HI1 HV1 HV2 HRI ⊢
 go_enter Tryz.func4,Tryz.ntmps4
 go_wp2_with fail
 generalize ((((w.alloc (G #[C z.nm,A B z.first.off,A B z.first.sv,C z.first.nm,D AT z.table.length cT,D AR z.tail.length cR,A B z.off,C z.form,A B z.year] 27)).alloc (G #[C q.nm,A B q.first.off,A B q.first.sv,C q.first.nm,D AU q.table.length cU,D AS q.tail.length cS,A B q.off,C q.form,A B q.year] 27)).alloc (G #[A B a,A B b] 29)).alloc (G #[A B g,A B f] 44))=W at *
 have hw:w.heap.size≤W.heap.size:=hB3.size
 refine (HA.out W hB3).mono ?_
 rintro e w1 ⟨rfl,hb1⟩
 clear HA
 have Kz:=b0.below hb1 b0.lt
 have Lz:=Kz.lt
 have z0:=Zz0 Kz 0 _ rfl
 have z1:=Zz0 Kz 1 _ rfl
 have z2:=Zz0 Kz 2 _ rfl
 have z3:=Zz0 Kz 3 _ rfl
 have z4:=Zz0 Kz 4 _ rfl
 have z5:=Zz0 Kz 5 _ rfl
 have z6:=Zz0 Kz 6 _ rfl
 have z7:=Zz0 Kz 7 _ rfl
 have z8:=Zz0 Kz 8 _ rfl
 have Kq:=b1.below hb1 b1.lt
 have Lq:=Kq.lt
 have q0:=Zz0 Kq 0 _ rfl
 have q1:=Zz0 Kq 1 _ rfl
 have q2:=Zz0 Kq 2 _ rfl
 have q3:=Zz0 Kq 3 _ rfl
 have q4:=Zz0 Kq 4 _ rfl
 have q5:=Zz0 Kq 5 _ rfl
 have q6:=Zz0 Kq 6 _ rfl
 have q7:=Zz0 Kq 7 _ rfl
 have q8:=Zz0 Kq 8 _ rfl
 have Ki:=b2.below hb1 b2.lt
 have Li:=Ki.lt
 have i0:=Zz0 Ki 0 _ rfl
 have i1:=Zz0 Ki 1 _ rfl
 have ba:=Blk.new w1 #[C z.nm,A B z.first.off,A B z.first.sv,C z.first.nm,D AT z.table.length cT,D AR z.tail.length cR,A B z.off,C z.form,A B z.year,C q.nm,A B q.first.off,A B q.first.sv,C q.first.nm,D AU q.table.length cU,D AS q.tail.length cS,A B q.off,C q.form,A B q.year] 27
 have hb2:Below W.heap.size W (w1.alloc (G #[C z.nm,A B z.first.off,A B z.first.sv,C z.first.nm,D AT z.table.length cT,D AR z.tail.length cR,A B z.off,C z.form,A B z.year,C q.nm,A B q.first.off,A B q.first.sv,C q.first.nm,D AU q.table.length cU,D AS q.tail.length cS,A B q.off,C q.form,A B q.year] 27)):=hb1.alloc hb1.size _
 go_wp2_with fail
 generalize hwa:w1.alloc (G #[C z.nm,A B z.first.off,A B z.first.sv,C z.first.nm,D AT z.table.length cT,D AR z.tail.length cR,A B z.off,C z.form,A B z.year,C q.nm,A B q.first.off,A B q.first.sv,C q.first.nm,D AU q.table.length cU,D AS q.tail.length cS,A B q.off,C q.form,A B q.year] 27)=w2 at *
 clear hwa
 refine (HG.out _ w2 ba.lt (fun j u hj=>ba.cell j (by simpa using hj))).mono ?_
 rintro e w3 ⟨rfl,hb3⟩
 have hb3:=hb2.trans (hb3.mono hb2.size)
 clear Kz Lz z0 z1 z2 z3 z4 z5 z6 z7 z8 Kq Lq q0 q1 q2 q3 q4 q5 q6 q7 q8 Ki Li i0 i1
 clear HG ba
 by_cases hbig:(bigV z || bigV q)=true
 ·rw [hbig]
  go_wp2
  go_ret
  exact ⟨rfl,hB3.trans (hb3.mono hw)⟩
 have hbig0:(bigV z || bigV q)=false:=by simpa using hbig
 rw [hbig0]
 obtain ⟨⟨hzt,hzl⟩,hqt,hql⟩:=big_parts2 hbig0
 clear hbig hbig0
 have Ki:=b2.below hb3 b2.lt
 have Li:=Ki.lt
 have i0:=Zz0 Ki 0 _ rfl
 have i1:=Zz0 Ki 1 _ rfl
 go_wp2_with fail
 refine (HL.out w3).mono ?_
 rintro e w4 ⟨rfl,hb4⟩
 have hb4:=hb3.trans (hb4.mono hb3.size)
 clear Ki Li i0 i1
 by_cases hlg:longV a b 4=true
 ·rw [hlg]
  go_wp2
  go_ret
  exact ⟨rfl,hB3.trans (hb4.mono hw)⟩
 have hlg0:longV a b 4=false:=by simpa using hlg
 rw [hlg0]
 have hspan:spanV a b=true→b-a≤126489600:=by
  intro hs
  unfold longV at hlg0
  rw [hs] at hlg0
  simp at hlg0
  omega
 have HSN:=Hh hspan
 clear hlg hlg0 HL
 have HI1:=Hh (fun W hb=>HI1.out (by omega) (by omega) (by omega) (by omega) (fun hv h=>by have:=hspan h;have:=Zz1g hv (T:=60) (R:=6) (Y:=5) hzt hzl (a:=cutA a) (b:=cutB b) (by unfold cutA cutB;omega);omega) (fun hv h=>by have:=hspan h;have:=Zz1g hv (T:=60) (R:=6) (Y:=5) hqt hql (a:=cutA a) (b:=cutB b) (by unfold cutA cutB;omega);omega) W hb)
 have HV1:=Hh (fun W hb=>HV1.out (by omega) W hb)
 have HV2:=Hh (fun W hb=>HV2.out (by omega) W hb)
 have HRI:=Hh (fun v1 v2 hp hs=>HRI.out (by omega) (by omega) (by omega) (by omega) v1 v2 hp hs (by have:=hspan hs;omega) (fun l=>by have:=Zz1g (T:=60) (R:=6) (Y:=1) v1 hzt hzl (a:=cutA l) (b:=cutB (l+1)) (by unfold cutA cutB;omega);omega) (fun l=>by have:=Zz1g (T:=60) (R:=6) (Y:=1) v2 hqt hql (a:=cutA l) (b:=cutB (l+1)) (by unfold cutA cutB;omega);omega) (by have:=hspan hs;have:=Zz1g v1 (T:=60) (R:=6) (Y:=5) hzt hzl (a:=cutA a) (b:=cutB b) (by unfold cutA cutB;omega);omega) (by have:=hspan hs;have:=Zz1g v2 (T:=60) (R:=6) (Y:=5) hqt hql (a:=cutA a) (b:=cutB b) (by unfold cutA cutB;omega);omega))
 clear hspan
 have Kz:=b0.below hb4 b0.lt
 have Lz:=Kz.lt
 have z0:=Zz0 Kz 0 _ rfl
 have z1:=Zz0 Kz 1 _ rfl
 have z2:=Zz0 Kz 2 _ rfl
 have z3:=Zz0 Kz 3 _ rfl
 have z4:=Zz0 Kz 4 _ rfl
 have z5:=Zz0 Kz 5 _ rfl
 have z6:=Zz0 Kz 6 _ rfl
 have z7:=Zz0 Kz 7 _ rfl
 have z8:=Zz0 Kz 8 _ rfl
 have Kq:=b1.below hb4 b1.lt
 have Lq:=Kq.lt
 have q0:=Zz0 Kq 0 _ rfl
 have q1:=Zz0 Kq 1 _ rfl
 have q2:=Zz0 Kq 2 _ rfl
 have q3:=Zz0 Kq 3 _ rfl
 have q4:=Zz0 Kq 4 _ rfl
 have q5:=Zz0 Kq 5 _ rfl
 have q6:=Zz0 Kq 6 _ rfl
 have q7:=Zz0 Kq 7 _ rfl
 have q8:=Zz0 Kq 8 _ rfl
 have Ki:=b2.below hb4 b2.lt
 have Li:=Ki.lt
 have i0:=Zz0 Ki 0 _ rfl
 have i1:=Zz0 Ki 1 _ rfl
 have Kp:=b3.below hb4 b3.lt
 have Lp:=Kp.lt
 have p0:=Zz0 Kp 0 _ rfl
 have p1:=Zz0 Kp 1 _ rfl
 go_wp2_with fail
 refine (HI1.out w4 (hB3.trans (hb4.mono hw))).mono ?_
 rintro e w5 ⟨hb5,h5⟩
 have hbA5:=hb4.trans (hb5.mono hb4.size)
 clear HI1
 clear Kz Lz z0 z1 z2 z3 z4 z5 z6 z7 z8 Kq Lq q0 q1 q2 q3 q4 q5 q6 q7 q8 Ki Li i0 i1 Kp Lp p0 p1
 have HBW:=Hh (fun w' (hb:Below W.heap.size W w')=>hB3.trans (hb.mono hw))
 have Kz:=b0.below hbA5 b0.lt
 have Lz:=Kz.lt
 have z0:=Zz0 Kz 0 _ rfl
 have z1:=Zz0 Kz 1 _ rfl
 have z2:=Zz0 Kz 2 _ rfl
 have z3:=Zz0 Kz 3 _ rfl
 have z4:=Zz0 Kz 4 _ rfl
 have z5:=Zz0 Kz 5 _ rfl
 have z6:=Zz0 Kz 6 _ rfl
 have z7:=Zz0 Kz 7 _ rfl
 have z8:=Zz0 Kz 8 _ rfl
 rcases h5 with ⟨hbad,rfl⟩|⟨hvz,hvq,hpl,hsp,out,u5,hc5,hm5,hl5,rfl,hown5⟩
 ·cases hvz:z.valid
  ·rw [hvz] at HV1
   clear hbad hvz
   go_wp2_with fail
   refine (HV1.out _ (HBW.out _ hbA5)).mono ?_
   rintro e w6 ⟨rfl,hb6⟩
   have hbA6:=hbA5.trans (hb6.mono hbA5.size)
   clear HV1
   clear Kz Lz z0 z1 z2 z3 z4 z5 z6 z7 z8
   go_wp2
   go_ret
   exact ⟨rfl,HBW.out _ hbA6⟩
  rw [hvz] at HV1
  go_wp2_with fail
  refine (HV1.out _ (HBW.out _ hbA5)).mono ?_
  rintro e w6 ⟨rfl,hb6⟩
  have hbA6:=hbA5.trans (hb6.mono hbA5.size)
  clear HV1
  clear Kz Lz z0 z1 z2 z3 z4 z5 z6 z7 z8
  cases hvq:q.valid
  ·rw [hvq] at HV2
   clear hbad hvz hvq
   have Kq:=b1.below hbA6 b1.lt
   have Lq:=Kq.lt
   have q0:=Zz0 Kq 0 _ rfl
   have q1:=Zz0 Kq 1 _ rfl
   have q2:=Zz0 Kq 2 _ rfl
   have q3:=Zz0 Kq 3 _ rfl
   have q4:=Zz0 Kq 4 _ rfl
   have q5:=Zz0 Kq 5 _ rfl
   have q6:=Zz0 Kq 6 _ rfl
   have q7:=Zz0 Kq 7 _ rfl
   have q8:=Zz0 Kq 8 _ rfl
   go_wp2_with fail
   refine (HV2.out _ (HBW.out _ hbA6)).mono ?_
   rintro e w7 ⟨rfl,hb7⟩
   have hbA7:=hbA6.trans (hb7.mono hbA6.size)
   clear HV2
   clear Kq Lq q0 q1 q2 q3 q4 q5 q6 q7 q8
   go_wp2
   go_ret
   exact ⟨rfl,HBW.out _ hbA7⟩
  rw [hvq] at HV2
  have Kq:=b1.below hbA6 b1.lt
  have Lq:=Kq.lt
  have q0:=Zz0 Kq 0 _ rfl
  have q1:=Zz0 Kq 1 _ rfl
  have q2:=Zz0 Kq 2 _ rfl
  have q3:=Zz0 Kq 3 _ rfl
  have q4:=Zz0 Kq 4 _ rfl
  have q5:=Zz0 Kq 5 _ rfl
  have q6:=Zz0 Kq 6 _ rfl
  have q7:=Zz0 Kq 7 _ rfl
  have q8:=Zz0 Kq 8 _ rfl
  go_wp2_with fail
  refine (HV2.out _ (HBW.out _ hbA6)).mono ?_
  rintro e w7 ⟨rfl,hb7⟩
  have hbA7:=hbA6.trans (hb7.mono hbA6.size)
  clear HV2
  clear Kq Lq q0 q1 q2 q3 q4 q5 q6 q7 q8
  cases hpl:polB g f
  ·rw [hpl] at HPV
   clear hbad hvz hvq hpl
   have Kp:=b3.below hbA7 b3.lt
   have Lp:=Kp.lt
   have p0:=Zz0 Kp 0 _ rfl
   have p1:=Zz0 Kp 1 _ rfl
   go_wp2_with fail
   refine (HPV.out _).mono ?_
   rintro e w7p ⟨rfl,hb7p⟩
   have hbA7p:=hbA7.trans (hb7p.mono hbA7.size)
   clear HPV
   clear Kp Lp p0 p1
   go_wp2
   go_ret
   exact ⟨rfl,HBW.out _ hbA7p⟩
  rw [hpl] at HPV
  have hsf:spanV a b=false:=by rcases hbad with h|h|h|h <;> simp_all
  rw [hsf] at HSP
  clear hbad hvz hvq hsf hpl
  have Kp:=b3.below hbA7 b3.lt
  have Lp:=Kp.lt
  have p0:=Zz0 Kp 0 _ rfl
  have p1:=Zz0 Kp 1 _ rfl
  go_wp2_with fail
  refine (HPV.out _).mono ?_
  rintro e w7p ⟨rfl,hb7p⟩
  have hbA7p:=hbA7.trans (hb7p.mono hbA7.size)
  clear HPV
  clear Kp Lp p0 p1
  have Ki:=b2.below hbA7p b2.lt
  have Li:=Ki.lt
  have i0:=Zz0 Ki 0 _ rfl
  have i1:=Zz0 Ki 1 _ rfl
  go_wp2_with fail
  refine (HSP.out _).mono ?_
  rintro e w8 ⟨rfl,hb8⟩
  have hbA8:=hbA7p.trans (hb8.mono hbA7p.size)
  clear HSP
  clear Ki Li i0 i1
  go_wp2
  go_ret
  exact ⟨rfl,HBW.out _ hbA8⟩
 have HR5:=Hh (Zz7 Zzy hown5 rfl)
 have hsb : -62135596800≤a∧a<b∧b≤253402300800:=by
  unfold spanV at hsp
  simp at hsp
  omega
 have hri:=ref_loc hvz hvq hsb.1 hsb.2.1 hsb.2.2 g f
 have hsame:locR z q g f a b=out:=Zz2I hri.1 hc5 fun x=>by rw [hri.2 x,hm5 x]
 have HRJ:=Hh (HRI.out hvz hvq hpl hsp)
 rw [hsame] at HRJ
 rw [hvz] at HV1
 rw [hvq] at HV2
 rw [hsp] at HSP
 rw [hpl] at HPV
 obtain ⟨A5,c5,rfl⟩:=Zzb HR5.out
 clear hown5 hvz hvq hsp hpl hri hsame hm5 hc5 HRI hsb
 go_wp2_with fail
 refine (HV1.out _ (HBW.out _ hbA5)).mono ?_
 rintro e w6 ⟨rfl,hb6⟩
 have hbA6:=hbA5.trans (hb6.mono hbA5.size)
 clear HV1
 clear Kz Lz z0 z1 z2 z3 z4 z5 z6 z7 z8
 have Kq:=b1.below hbA6 b1.lt
 have Lq:=Kq.lt
 have q0:=Zz0 Kq 0 _ rfl
 have q1:=Zz0 Kq 1 _ rfl
 have q2:=Zz0 Kq 2 _ rfl
 have q3:=Zz0 Kq 3 _ rfl
 have q4:=Zz0 Kq 4 _ rfl
 have q5:=Zz0 Kq 5 _ rfl
 have q6:=Zz0 Kq 6 _ rfl
 have q7:=Zz0 Kq 7 _ rfl
 have q8:=Zz0 Kq 8 _ rfl
 go_wp2_with fail
 refine (HV2.out _ (HBW.out _ hbA6)).mono ?_
 rintro e w7 ⟨rfl,hb7⟩
 have hbA7:=hbA6.trans (hb7.mono hbA6.size)
 clear HV2
 clear Kq Lq q0 q1 q2 q3 q4 q5 q6 q7 q8
 have Kp:=b3.below hbA7 b3.lt
 have Lp:=Kp.lt
 have p0:=Zz0 Kp 0 _ rfl
 have p1:=Zz0 Kp 1 _ rfl
 go_wp2_with fail
 refine (HPV.out _).mono ?_
 rintro e w7p ⟨rfl,hb7p⟩
 have hbA7p:=hbA7.trans (hb7p.mono hbA7.size)
 clear HPV
 clear Kp Lp p0 p1
 have Ki:=b2.below hbA7p b2.lt
 have Li:=Ki.lt
 have i0:=Zz0 Ki 0 _ rfl
 have i1:=Zz0 Ki 1 _ rfl
 go_wp2_with fail
 refine (HSP.out _).mono ?_
 rintro e w8 ⟨rfl,hb8⟩
 have hbA8:=hbA7p.trans (hb8.mono hbA7p.size)
 clear HSP
 clear Ki Li i0 i1
 have Kz:=b0.below hbA8 b0.lt
 have Lz:=Kz.lt
 have z0:=Zz0 Kz 0 _ rfl
 have z1:=Zz0 Kz 1 _ rfl
 have z2:=Zz0 Kz 2 _ rfl
 have z3:=Zz0 Kz 3 _ rfl
 have z4:=Zz0 Kz 4 _ rfl
 have z5:=Zz0 Kz 5 _ rfl
 have z6:=Zz0 Kz 6 _ rfl
 have z7:=Zz0 Kz 7 _ rfl
 have z8:=Zz0 Kz 8 _ rfl
 have Kq:=b1.below hbA8 b1.lt
 have Lq:=Kq.lt
 have q0:=Zz0 Kq 0 _ rfl
 have q1:=Zz0 Kq 1 _ rfl
 have q2:=Zz0 Kq 2 _ rfl
 have q3:=Zz0 Kq 3 _ rfl
 have q4:=Zz0 Kq 4 _ rfl
 have q5:=Zz0 Kq 5 _ rfl
 have q6:=Zz0 Kq 6 _ rfl
 have q7:=Zz0 Kq 7 _ rfl
 have q8:=Zz0 Kq 8 _ rfl
 have Ki:=b2.below hbA8 b2.lt
 have Li:=Ki.lt
 have i0:=Zz0 Ki 0 _ rfl
 have i1:=Zz0 Ki 1 _ rfl
 have Kp:=b3.below hbA8 b3.lt
 have Lp:=Kp.lt
 have p0:=Zz0 Kp 0 _ rfl
 have p1:=Zz0 Kp 1 _ rfl
 have HR8:=Hh ((((HR5.out.on hb6).on hb7).on hb7p).on hb8)
 go_wp2_with fail
 refine (HRJ.out _ (HBW.out _ hbA8)).mono ?_
 rintro e w9 ⟨v9,rfl,r9,hb9⟩
 have hbA9:=hbA8.trans (hb9.mono hbA8.size)
 have HR9:=Hh (HR8.out.on hb9)
 have HQ9:=Hh r9
 obtain ⟨A9,c9,rfl⟩:=Zzb r9
 clear HRJ r9
 clear Kz Lz z0 z1 z2 z3 z4 z5 z6 z7 z8 Kq Lq q0 q1 q2 q3 q4 q5 q6 q7 q8 Ki Li i0 i1 Kp Lp p0 p1
 go_wp2_with fail
 refine (same_yes out _ _ _ (by omega) HR9.out HQ9.out).mono ?_
 rintro e w10 ⟨rfl,hb10⟩
 go_wp2
 go_ret
 exact ⟨rfl,HBW.out _ (hbA9.trans (hb10.mono hbA9.size))⟩
end Go.Proofs.YtmmgdjgcikbhbaaGreat
