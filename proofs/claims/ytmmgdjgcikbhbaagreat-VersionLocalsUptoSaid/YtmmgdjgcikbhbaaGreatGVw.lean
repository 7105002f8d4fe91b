/- Joined by merge.py: VerW1, VerW2, VerW3. -/
import Derived.Test.YtmmgdjgcikbhbaaGreatGRn
import Derived.Test.YtmmgdjgcikbhbaaGreatGHis
import Derived.Sort.OwnSortedInts
import Derived.Test.YtmmgdjgcikbhbaaGreatGVx
/- version: numbers that the call owns, sorted; what a function that collects spans keeps. -/
open Go.Value renaming int → A
open Go.IntKind renaming i64 → C
open Option renaming none → D
open Go.Obj renaming cells → E
open Go.Ending renaming returned → G
namespace Go.Proofs.YtmmgdjgcikbhbaaGreat
set_option linter.unusedSimpArgs false
set_option linter.unusedVariables false
open Go.ChangeShapes Go.WideShapes Go.ChangeAt Go.RowKit
theorem Zz4w (base:Nat) (zs:List Int) (n:Nat) (v:Value) (w:World) (h:w.ownsRow base 3 1 v n (zs.map (A C))) (hn:0<n) (hn2:n≤1000000) :
  Calls Tryz.prog 44 #[v] w fun e w'=>e=G (.tuple #[])∧w'.ownsRow base 3 1 v n ((zs.mergeSort fun x y=>decide (x≤y)).map (A C))∧w.grownBy w' v.ownBlock:=by
 obtain ⟨g,cap,rfl,hg1,hg2,hg3,hg4,hg5,hH⟩:=Lib.holds_of_ownsRow h (not_nil h hn)
 subst hg5
 refine (Tryz.slices_Sort_int g 0 cap zs w hH hg2 (by omega)).mono ?_
 rintro e w' ⟨rfl,n,os,rfl⟩
 have h2:=Lib.ownsRow_putRow (q:=n) h (ys:=zs.mergeSort fun x y=>decide (x≤y)) (List.length_mergeSort _) nlR
 rw [List.take_of_length_le (by rw [List.length_mergeSort];exact Nat.le_refl _)] at h2
 exact ⟨rfl,Zz8 h2 (Zz3f _ _),grownBy_sortedI _⟩
theorem Zz2S (l:List Int):(l.mergeSort fun x y=>decide (x≤y)).Pairwise (· ≤ ·):=by
 have h:=List.pairwise_mergeSort (le:=fun x y:Int=>decide (x≤y)) (fun a b c h1 h2=>by simp at *;omega) (fun a b=>by simp;omega) l
 exact h.imp fun h=>by simpa using h
theorem mem_ms {l:List Int} {x:Int}:x∈(l.mergeSort fun x y=>decide (x≤y))↔x∈l:=(List.mergeSort_perm _ _).mem_iff
theorem Zz1I {w w':World} {o B:Nat} (h:w.grownBy w' (some o)) (hB:B≤o) (hs:B≤w.heap.size):Below B w w' :=
 ⟨h.os,h.tape,h.output,h.size,fun k hk=>h.block k (by omega) (by intro e;injection e with e;omega)⟩
def OutP (o:Nat) (w0:World) (L:List Spn) (w:World):Prop :=
 w0.grownBy w (some o)∧o<w0.heap.size∧∃ u,Boxed w o 33 u∧w.ownsRow w0.heap.size 29 2 u L.length (L.flatMap encN)∧(L=[]→u=.slice none 0 0)
theorem OutP.below {o:Nat} {w0 w w':World} {L:List Spn} (h:OutP o w0 L w) (hb:Below w.heap.size w w'):OutP o w0 L w':=by
 obtain ⟨h1,h2,u,h3,h4,h5⟩:=h
 exact ⟨h1.trans (Zzd hb),h2,u,h3.kept (Zzd (row:=none) hb) (by simp),Zz8 h4 hb,h5⟩
theorem OutP.old {o B:Nat} {w0 w:World} {L:List Spn} (h:OutP o w0 L w) (hB:B≤o):Below B w0 w:=Zz1I h.1 hB (Nat.le_of_lt (Nat.lt_of_le_of_lt hB h.2.1))
theorem OutP.add {o:Nat} {w0 w wa w1:World} {L:List Spn} {s:Spn} {u v':Value} (h1:w0.grownBy w (some o)) (ho:o<w0.heap.size) (hbox:Boxed w o 33 u) (hrow:w.ownsRow w0.heap.size 29 2 u L.length (L.flatMap encN)) (hA:Below w.heap.size w wa)
  (hown:w1.ownsRow w0.heap.size 29 2 v' (L.length+1) (L.flatMap encN++encN s)) (hgrow:wa.grownBy w1 u.ownBlock):Boxed w1 o 33 u∧OutP o w0 (L++[s]) (w1.setCell ⟨o,0,D⟩ v'):=by
 have hne:some o≠u.ownBlock:=hbox.not_row (by decide) hrow
 have hbA:Boxed wa o 33 u:=hbox.kept (Zzd (row:=none) hA) (by simp)
 have hb1:Boxed w1 o 33 u:=hbA.kept hgrow hne
 refine ⟨hb1,((h1.trans (Zzd hA)).andThen hgrow fun j ej=>?_).trans (grownBy_setCell' w1 o v'),ho,v',hb1.set v',?_,fun e=>absurd e (by simp)⟩
 ·rcases hrow.2 with ⟨rfl,_⟩|⟨g,cap,cur,rfl,hg,_⟩
  ·simp [Value.ownBlock] at ej
  obtain rfl:g=j:=by simpa [Value.ownBlock] using ej
  exact .inl hg
 have h2:=hown.kept (grownBy_setCell' w1 o v') (.inr (hb1.not_row (by decide) hown).symm)
 rw [List.length_append,List.flatMap_append,show [s].flatMap encN=encN s by simp]
 exact h2
/- version.span, the closure of version.Instants. -/
def spanV (a b:Int):Bool:=decide (-62135596800≤a) && (decide (a<b) && decide (b≤253402300800))
theorem Zz76 (a b:Int) (w:World):Calls Tryz.prog 20 #[.agg #[A C a,A C b]] w fun e w'=>e=G (.bool (spanV a b))∧Below w.heap.size w w':=by
 have HBZ:=Hh (show Below w.heap.size w (w.alloc (E #[A C a,A C b] 29)) from bLR.alloc nlR _)
 unfold spanV
 by_cases h1 : -62135596800≤a
 ·rw [dTt h1,Bool.true_and]
  by_cases h2:a<b
  ·rw [dTt h2,Bool.true_and]
   go_enter Tryz.func20,Tryz.ntmps20
   go_wp2
   go_ret
   exact ⟨rfl,HBZ.out⟩
  rw [dFf h2,Bool.false_and]
  go_enter Tryz.func20,Tryz.ntmps20
  go_wp2
  go_ret
  exact ⟨ret1 (vbool (by simp)),HBZ.out⟩
 rw [dFf h1,Bool.false_and]
 go_enter Tryz.func20,Tryz.ntmps20
 go_wp2
 go_ret
 exact ⟨ret1 (vbool (by simp)),HBZ.out⟩
set_option maxRecDepth 100000 in
set_option maxHeartbeats 8000000 in
theorem ins1_any (z q:Zn) (vTz vRz vTq vRq:Value) (pa pb o:Nat) (we w0 w:World) (L:List Spn) (s:Spn) (hz:z.valid=true) (hq:q.valid=true) (hs : -62135596800≤s.fr∧s.fr<253402300800) (hm:HasMax we)
  (hTz:Rd Trn.cells 4 we vTz z.table) (hRz:Rd Rule.cells 11 we vRz z.tail) (hTq:Rd Trn.cells 4 we vTq q.table) (hRq:Rd Rule.cells 11 we vRq q.tail) (hfz:z.form.size<4294967281) (hfq:q.form.size<4294967281) (hlz:z.tail.length≤12) (hlq:q.tail.length≤12)
  (hbe:Below we.heap.size we w0) (hBo:we.heap.size≤o) (ha:Blk w0 pa (z.cellsZ vTz vRz).toArray 27) (hb:Blk w0 pb (q.cellsZ vTq vRq).toArray 27) (hao:pa≠o) (hbo:pb≠o) (hlen:L.length≤6000) (hP:OutP o w0 L w) :
  Calls Tryz.prog 23 #[.agg #[A C s.fr,A C s.to],.pointer (some ⟨pa,0,D⟩),.pointer (some ⟨pb,0,D⟩),.pointer (some ⟨o,0,D⟩)] w fun e w'=>e=G (.tuple #[])∧OutP o w0 (L++typB2 z q s) w':=by
 have hbw:Below we.heap.size we w:=hbe.trans (hP.old hBo)
 have HA:=Hh (fun W (hb:Below w.heap.size w W)=>show Calls Tryz.prog 24 #[z.v vTz vRz,A C s.fr] W fun e w'=>e=G (atR (z.typF s.fr,0))∧Below W.heap.size W w' from by
  have hb2:=hbw.trans (hb.mono hbw.size)
  have h:=Zz79 z vTz vRz s.fr W (hm.on hb2) (hTz.on hb2) (hRz.on hb2) hfz (.inl hlz)
  rwa [show z.atV s.fr=(z.typF s.fr,0) from by unfold Zn.atV inT;rw [if_neg (by simp [hz]),if_neg (by simp;omega)]] at h)
 have HB:=Hh (fun W (hb:Below w.heap.size w W)=>show Calls Tryz.prog 24 #[q.v vTq vRq,A C s.fr] W fun e w'=>e=G (atR (q.typF s.fr,0))∧Below W.heap.size W w' from by
  have hb2:=hbw.trans (hb.mono hbw.size)
  have h:=Zz79 q vTq vRq s.fr W (hm.on hb2) (hTq.on hb2) (hRq.on hb2) hfq (.inl hlq)
  rwa [show q.atV s.fr=(q.typF s.fr,0) from by unfold Zn.atV inT;rw [if_neg (by simp [hq]),if_neg (by simp;omega)]] at h)
 obtain ⟨AT,cT,rfl⟩:=Zzb hTz
 obtain ⟨AR,cR,rfl⟩:=Zzb hRz
 obtain ⟨AU,cU,rfl⟩:=Zzb hTq
 obtain ⟨AS,cS,rfl⟩:=Zzb hRq
 have HP:=Hh hP
 obtain ⟨hg,ho,u,hbox,hown,_⟩:=hP
 have ka:=ha.kept hg (by simpa using hao)
 have kb:=hb.kept hg (by simpa using hbo)
 unfold Zn.cellsZ at ka kb
 clear hTz hRz hTq hRq hm hbe ha hb
 have HADD:=Hh (fun wa w1 v' (hA:Below w.heap.size w wa) hown' (hgr:wa.grownBy w1 u.ownBlock)=>OutP.add (s:=s) (v':=v') hg ho hbox hown hA hown' hgr)
 have HOWN:=Hh hown
 have HBX:=Hh hbox
 have hNS:=Zzl hown
 clear hg ho hown
 unfold typB2
 unfold Zn.v at HA HB
 unfold atR Typ.val at HA HB
 dsimp only at HA HB
 generalize z.typF s.fr=X at *
 generalize q.typF s.fr=Y at *
 have b0:=Blk.new w #[A C s.fr,A C s.to] 29
 have hB0:Below w.heap.size w (w.alloc (E #[A C s.fr,A C s.to] 29)):=bLR.alloc nlR _
 have ka:=ka.alloc (E #[A C s.fr,A C s.to] 29)
 have kb:=kb.alloc (E #[A C s.fr,A C s.to] 29)
 have Lz:=ka.lt
 have z0:=Zz0 ka 0 _ rfl
 have z1:=Zz0 ka 1 _ rfl
 have z2:=Zz0 ka 2 _ rfl
 have z3:=Zz0 ka 3 _ rfl
 have z4:=Zz0 ka 4 _ rfl
 have z5:=Zz0 ka 5 _ rfl
 have z6:=Zz0 ka 6 _ rfl
 have z7:=Zz0 ka 7 _ rfl
 have z8:=Zz0 ka 8 _ rfl
 go_enter Tryz.func23,Tryz.ntmps23
 go_wp2_with fail
 generalize w.alloc (E #[A C s.fr,A C s.to] 29)=W at *
 refine (HA.out W hB0).mono ?_
 rintro e w1 ⟨rfl,hb1⟩
 clear HA
 clear Lz z0 z1 z2 z3 z4 z5 z6 z7 z8
 have k0:=b0.below hb1 b0.lt
 have s0:=k0.cell 0 (v:=A C s.fr) rfl
 have sl:=k0.lt
 have kb1:=kb.below hb1 kb.lt
 have bx:=Blk.new w1 #[A C X.off,A C X.sv,.string X.nm] 23
 have hBx:=(hB0.trans (hb1.mono hB0.size)).alloc (nLt hB0.size hb1.size) (E #[A C X.off,A C X.sv,.string X.nm] 23)
 have Lq:=kb1.lt
 have q0:=Zz0 kb1 0 _ rfl
 have q1:=Zz0 kb1 1 _ rfl
 have q2:=Zz0 kb1 2 _ rfl
 have q3:=Zz0 kb1 3 _ rfl
 have q4:=Zz0 kb1 4 _ rfl
 have q5:=Zz0 kb1 5 _ rfl
 have q6:=Zz0 kb1 6 _ rfl
 have q7:=Zz0 kb1 7 _ rfl
 have q8:=Zz0 kb1 8 _ rfl
 go_wp2_with fail
 have k0x:=k0.alloc (E #[A C X.off,A C X.sv,.string X.nm] 23)
 generalize w1.alloc (E #[A C X.off,A C X.sv,.string X.nm] 23)=wx at *
 refine (HB.out wx hBx).mono ?_
 rintro e w2 ⟨rfl,hb2⟩
 clear HB
 clear Lq q0 q1 q2 q3 q4 q5 q6 q7 q8 s0 sl
 have kx:=bx.below hb2 bx.lt
 have x0:=Zz0 kx 0 _ rfl
 have x1:=Zz0 kx 1 _ rfl
 have x2:=Zz0 kx 2 _ rfl
 have xl:=kx.lt
 have ks:=k0x.below hb2 k0x.lt
 have s0:=ks.cell 0 (v:=A C s.fr) rfl
 have s1:=ks.cell 1 (v:=A C s.to) rfl
 have sl:=ks.lt
 have hB2:=hBx.trans (hb2.mono hBx.size)
 have bo:=HBX.out.kept (Zzd (row:=none) hB2) (by simp)
 have o0:=bo.cell
 have ol:=bo.lt
 have hne:=fun W=>neTy X Y W
 have HO2:=Hh (Zz8 HOWN.out hB2)
 obtain ⟨i0,hi0,hz0,hz1,hz2⟩:=info_parts Zz1J
 have hB2y:Below w.heap.size w (w2.alloc (E #[A C Y.off,A C Y.sv,.string Y.nm] 23)):=hB2.alloc hB2.size _
 clear kx ks bo bx b0 ka kb k0 kb1 k0x hb1 hb2 hB0 hBx
 by_cases hxy:X=Y
 ·have dxy:decide (X=Y)=true:=dTt hxy
  go_wp2
  go_end0
  first
   | exact ⟨rfl,HP.out.below hB2y⟩
   | (refine ⟨rfl,?_⟩;rw [if_neg (fun h=>h hxy),List.append_nil];exact HP.out.below hB2y)
 have dxy:decide (X=Y)=false:=dFf hxy
 have hw0:=HP.out.1.size
 go_wp2_with (at_builtin;go_loud (refine wpList_append_own_at _ rfl _ _ 33 rfl w0.heap.size 29 i0 _ 2 16 Tryz.underlying33 hi0 hz0 hz1 hz2 rfl (by decide) _ _ _ rfl ((HO2.out.alloc _).alloc _) ⟨_,0,D⟩ 1 1 (encN s) rfl rfl (Zz5 (by simp) _) (Zzz s) (by simp only [maxLen];omega) (by omega) (by have:=hB2y.size;simp at *;omega) ?_);intro v' wz hown' hgr _ _;obtain ⟨hbz,hOut⟩:=HADD.out _ wz v' (hB2y.alloc hB2y.size _) hown' hgr;obtain ⟨g',cap',rfl⟩:=ownsRow_succ hown';have oz:=hbz.cell;have of:=hbz.frozen)
 go_end0
 first
  | exact ⟨rfl,hOut⟩
  | (refine ⟨rfl,?_⟩;rw [if_pos hxy];exact hOut)
/- version.pieces. Printed by gen_verp.py. -/
def PieceEnd (l:List Int) (a b:Int) (v:Value) (o:Nat) (h:Spn→List Spn) (w:World) (e:Ending) (w':World):Prop :=
 e=G (.tuple #[])∧∃ w0,w.grownBy w0 v.ownBlock∧OutP o w0 ((piecesC b a ((l++[a,b]).mergeSort fun x y=>decide (x≤y))).flatMap h) w'
set_option maxRecDepth 100000 in
set_option maxHeartbeats 8000000 in
theorem pieces_ins (pa pb o base:Nat) (h:Spn→List Spn) (hh:∀ s,(h s).length≤2) (l:List Int) (v:Value) (a b:Int) (w:World) (hab:a<b) (hll:l.length≤2990) (hown:w.ownsRow base 3 1 v l.length (l.map (A C))) (hbase:base≤w.heap.size) (ho:o<w.heap.size) (hbox:Boxed w o 33 (.slice none 0 0))
  (hF:∀ (w0:World) (L:List Spn) (s:Spn) (W:World),w.grownBy w0 v.ownBlock→OutP o w0 L W→a≤s.fr→s.fr<s.to→s.to≤b→L.length≤6000→Calls Tryz.prog 23 #[.agg #[A C s.fr,A C s.to],.pointer (some ⟨pa,0,D⟩),.pointer (some ⟨pb,0,D⟩),.pointer (some ⟨o,0,D⟩)] W fun e w'=>e=G (.tuple #[])∧OutP o w0 (L++h s) w') :
  Calls Tryz.prog 22 #[.agg #[A C a,A C b],v,.func (.func 23) #[] #[.pointer (some ⟨pa,0,D⟩),.pointer (some ⟨pb,0,D⟩),.pointer (some ⟨o,0,D⟩)]] w (PieceEnd l a b v o h w):=by
 obtain ⟨i0,hi0,hz0,hz1,hz2⟩:=info_parts infoI
 have hov:some o≠v.ownBlock:=hbox.not_row (by decide) hown
 have hvw:∀ r,v.ownBlock=some r→r<w.heap.size:=fun r er=>by
  rcases hown.2 with ⟨rfl,_⟩|⟨g,cap,cur,rfl,_,hg,_⟩
  ·simp [Value.ownBlock] at er
  obtain rfl:g=r:=by simpa [Value.ownBlock] using er
  exact (Array.getElem?_eq_some_iff.1 hg).1
 have b0:=(Blk.new w #[A C a,A C b] 29).alloc (E #[A C a,A C b] 3)
 have HB2:=Hh (show Below w.heap.size w ((w.alloc (E #[A C a,A C b] 29)).alloc (E #[A C a,A C b] 3)) from (bLR.alloc nlR _).alloc (by simp) _)
 have HOWN:=Hh ((Zz8 hown (Zz6 w (E #[A C a,A C b] 29))))
 have HF:=Hh hF
 have HOV:=Hh hov
 have HVW:=Hh hvw
 have HBX:=Hh hbox
 have hNS:=Zzl hown
 clear hF hown hov hvw hbox
 unfold PieceEnd
 go_enter Tryz.func22,Tryz.ntmps22
 go_wp2_with (at_builtin;go_loud (refine wpList_append_own_at _ rfl _ _ 53 rfl base 3 i0 _ 1 8 Tryz.underlying53 hi0 hz0 hz1 hz2 rfl (by decide) v _ _ rfl (HOWN.out.alloc _) ⟨_,0,D⟩ 2 2 [A C a,A C b] rfl rfl (Zz5 (by simp) _) (Zz3B _ _) (by simp only [maxLen];omega) (by omega) (by simp;omega) ?_);intro v1 w1 hown1 hg1 _ hat1)
 have hown1':w1.ownsRow base 3 1 v1 (l.length+2) ((l++[a,b]).map (A C)):=by rw [List.map_append];exact hown1
 have HS:=Hh (Zz4w base (l++[a,b]) _ v1 w1 hown1' (by omega) (by omega))
 have hA:w.grownBy w1 v.ownBlock:=(Zzd HB2.out).trans hg1
 have hz1':w.heap.size+2≤w1.heap.size:=by have:=hg1.size;simpa using this
 have kb1:=b0.kept hg1 (fun e=>by have:=HVW.out _ e.symm;omega)
 have hat:v1.ownBlock=v.ownBlock∨v1.ownBlock=some (w.heap.size+2):=by simpa using hat1
 have hov1:some o≠v1.ownBlock:=by
  rcases hat with h|h
  ·rw [h];exact HOV.out
  rw [h];intro e;injection e with e;omega
 have hiv1:some w.heap.size≠v1.ownBlock:=by
  rcases hat with h|h
  ·rw [h];intro e;have:=HVW.out _ e.symm;omega
  rw [h];intro e;injection e with e;omega
 clear hown1 hown1' hg1 hat1 hi0 hz0 hz1 hz2
 go_wp2_with fail
 refine HS.out.mono ?_
 rintro e w2 ⟨rfl,hown2,hg2⟩
 clear HS
 have hg02:w.grownBy w2 v.ownBlock:=hA.andThen hg2 fun j ej=>by
  rcases hat with h|h
  ·rw [h] at ej;exact .inr ej
  rw [h] at ej;injection ej with ej;exact .inl (by omega)
 have kb2:=kb1.kept hg2 hiv1
 have hsz2:w.heap.size+2≤w2.heap.size:=nLt hz1' hg2.size
 have hP0:OutP o w2 [] w2:=⟨⟨rfl,rfl,rfl,Nat.le_refl _,fun _ _ _=>rfl⟩,by omega,_,HBX.out.kept hg02 HOV.out,World.ownsRow_nil _ _ _ _,fun _=>rfl⟩
 have HF:=Hh (fun L s W=>HF.out w2 L s W hg02)
 have HEND:=Hh hg02
 clear kb1 hA hg02 hg2 b0 HOWN HB2
 have hSl:((l++[a,b]).mergeSort fun x y=>decide (x≤y)).length=l.length+2:=by rw [List.length_mergeSort,List.length_append];rfl
 obtain ⟨S,hS⟩:∃ S,S=((l++[a,b]).mergeSort fun x y=>decide (x≤y)):=⟨_,rfl⟩
 rw [←hS] at hown2 hSl
 have HSE:=Hh hS
 clear hS
 have HR:=Hh (Zz7 (enc:=enc1) (fun _=>rfl) (show w2.ownsRow base 3 1 v1 (l.length+2) (S.flatMap (fun x=>[A C x])) from by rw [Zz61];exact hown2) hSl)
 obtain ⟨A1,c1,rfl⟩:=Zzb HR.out
 have i0:=kb2.cell 0 (v:=A C a) rfl
 have i1:=kb2.cell 1 (v:=A C b) rfl
 go_wp2
 clear i0 i1
 go_loopw [6,22] (fun v6 v7 wr=>∃ k:Nat,k≤S.length∧v7=A C k∧v6=A C (lastC b a (S.take k))∧OutP o w2 ((piecesC b a (S.take k)).flatMap h) wr) (fun _ v7 _=>S.length-(intOf v7).toNat)
 case atStart=>exact ⟨0,Nat.zero_le _,rfl,rfl,hP0⟩
 case round =>
  obtain ⟨k,hk,rfl,rfl,hP⟩:=hrel
  have kbr:=kb2.kept hP.1 (by intro e;injection e with e;omega)
  have i0:=kbr.cell 0 (v:=A C a) rfl
  have i1:=kbr.cell 1 (v:=A C b) rfl
  have hir:=kbr.lt
  by_cases hlt:k<S.length
  ·obtain ⟨g,off,hA1,hg,hcg⟩:∃ g off,A1=some ⟨g,off,D⟩∧g<w2.heap.size∧w2.cell? ⟨g,off+k,D⟩=some (A C S[k]!):=by
    rcases HR.out with ⟨e,_⟩|⟨g,off,c2,hv,hg,hc⟩
    ·rw [e] at hlt;simp at hlt
    injection hv with e1 _ _
    refine ⟨g,off,e1,hg,?_⟩
    have:=hc k hlt 0 _ rfl
    rwa [Nat.mul_one] at this
   subst hA1
   have c0:wr.cell? ⟨g,off+k,D⟩=some (A C S[k]!):=(hP.1.cell_far ⟨g,off+k,D⟩ hg (fun e=>hov1 e.symm)).trans hcg
   have htk:S.take (k+1)=S.take k++[S[k]!]:=by rw [List.take_succ_eq_append_getElem hlt,getElem!_pos S k hlt]
   have hsn:=Hh (Zz1o b S[k]! a (S.take k))
   rw [←htk] at hsn
   have hFb:=Zz46 b a (S.take k) (by omega)
   have hfl:=Zz42 hh (piecesC b a (S.take k))
   have hpl:=Zz13 b a (S.take k)
   rw [List.length_take] at hpl
   have HFk:=Hh (fun s hs1 hs2 hs3=>HF.out ((piecesC b a (S.take k)).flatMap h) s wr hP hs1 hs2 hs3 (by omega))
   have HP:=Hh hP
   clear hcg htk hfl hpl HR hP
   generalize lastC b a (S.take k)=F at *
   generalize S[k]! = c at *
   by_cases h1:F<c
   ·have d1:decide (F<c)=true:=dTt h1
    by_cases h2:c≤b
    ·have d2:decide (c≤b)=true:=dTt h2
     have HFk:=Hh (HFk.out ⟨F,c⟩ hFb.1 h1 h2)
     go_wp2_with fail
     refine HFk.out.mono ?_
     rintro e wn ⟨rfl,hPn⟩
     go_wp2
     go_roundw
     case rel =>
      refine ⟨k+1,by omega,by go_num,by rw [hsn.out.2,if_pos ⟨h1,h2⟩],?_⟩
      rw [hsn.out.1,if_pos ⟨h1,h2⟩,List.flatMap_append,show [(⟨F,c⟩:Spn)].flatMap h=h ⟨F,c⟩ by simp]
      exact hPn
     case measure=>simp [intOf];omega
    have d2:decide (c≤b)=false:=dFf h2
    go_wp2
    go_roundw
    case rel=>exact ⟨k+1,by omega,by go_num,by rw [hsn.out.2,if_neg (fun h=>h2 h.2)],by rw [hsn.out.1,if_neg (fun h=>h2 h.2),List.append_nil];exact HP.out⟩
    case measure=>simp [intOf];omega
   have d1:decide (F<c)=false:=dFf h1
   go_wp2
   go_roundw
   case rel=>exact ⟨k+1,by omega,by go_num,by rw [hsn.out.2,if_neg (fun h=>h1 h.1)],by rw [hsn.out.1,if_neg (fun h=>h1 h.1),List.append_nil];exact HP.out⟩
   case measure=>simp [intOf];omega
  have hk':k=S.length:=by omega
  subst hk'
  rw [List.take_length] at hP
  go_wp2
  go_end0
  exact ⟨rfl,w2,HEND.out,by rw [←HSE.out];exact hP⟩
set_option maxRecDepth 100000 in
set_option maxHeartbeats 8000000 in
theorem pieces_loc (pa pp pb o base:Nat) (h:Spn→List Spn) (hh:∀ s,(h s).length≤2) (l:List Int) (v:Value) (a b:Int) (w:World) (hab:a<b) (hll:l.length≤2990) (hown:w.ownsRow base 3 1 v l.length (l.map (A C))) (hbase:base≤w.heap.size) (ho:o<w.heap.size) (hbox:Boxed w o 33 (.slice none 0 0))
  (hF:∀ (w0:World) (L:List Spn) (s:Spn) (W:World),w.grownBy w0 v.ownBlock→OutP o w0 L W→a≤s.fr→s.fr<s.to→s.to≤b→L.length≤6000→Calls Tryz.prog 35 #[.agg #[A C s.fr,A C s.to],.pointer (some ⟨pa,0,D⟩),.pointer (some ⟨pp,0,D⟩),.pointer (some ⟨pb,0,D⟩),.pointer (some ⟨o,0,D⟩)] W fun e w'=>e=G (.tuple #[])∧OutP o w0 (L++h s) w') :
  Calls Tryz.prog 22 #[.agg #[A C a,A C b],v,.func (.func 35) #[] #[.pointer (some ⟨pa,0,D⟩),.pointer (some ⟨pp,0,D⟩),.pointer (some ⟨pb,0,D⟩),.pointer (some ⟨o,0,D⟩)]] w (PieceEnd l a b v o h w):=by
 obtain ⟨i0,hi0,hz0,hz1,hz2⟩:=info_parts infoI
 have hov:some o≠v.ownBlock:=hbox.not_row (by decide) hown
 have hvw:∀ r,v.ownBlock=some r→r<w.heap.size:=fun r er=>by
  rcases hown.2 with ⟨rfl,_⟩|⟨g,cap,cur,rfl,_,hg,_⟩
  ·simp [Value.ownBlock] at er
  obtain rfl:g=r:=by simpa [Value.ownBlock] using er
  exact (Array.getElem?_eq_some_iff.1 hg).1
 have b0:=(Blk.new w #[A C a,A C b] 29).alloc (E #[A C a,A C b] 3)
 have HB2:=Hh (show Below w.heap.size w ((w.alloc (E #[A C a,A C b] 29)).alloc (E #[A C a,A C b] 3)) from (bLR.alloc nlR _).alloc (by simp) _)
 have HOWN:=Hh ((Zz8 hown (Zz6 w (E #[A C a,A C b] 29))))
 have HF:=Hh hF
 have HOV:=Hh hov
 have HVW:=Hh hvw
 have HBX:=Hh hbox
 have hNS:=Zzl hown
 clear hF hown hov hvw hbox
 unfold PieceEnd
 go_enter Tryz.func22,Tryz.ntmps22
 go_wp2_with (at_builtin;go_loud (refine wpList_append_own_at _ rfl _ _ 53 rfl base 3 i0 _ 1 8 Tryz.underlying53 hi0 hz0 hz1 hz2 rfl (by decide) v _ _ rfl (HOWN.out.alloc _) ⟨_,0,D⟩ 2 2 [A C a,A C b] rfl rfl (Zz5 (by simp) _) (Zz3B _ _) (by simp only [maxLen];omega) (by omega) (by simp;omega) ?_);intro v1 w1 hown1 hg1 _ hat1)
 have hown1':w1.ownsRow base 3 1 v1 (l.length+2) ((l++[a,b]).map (A C)):=by rw [List.map_append];exact hown1
 have HS:=Hh (Zz4w base (l++[a,b]) _ v1 w1 hown1' (by omega) (by omega))
 have hA:w.grownBy w1 v.ownBlock:=(Zzd HB2.out).trans hg1
 have hz1':w.heap.size+2≤w1.heap.size:=by have:=hg1.size;simpa using this
 have kb1:=b0.kept hg1 (fun e=>by have:=HVW.out _ e.symm;omega)
 have hat:v1.ownBlock=v.ownBlock∨v1.ownBlock=some (w.heap.size+2):=by simpa using hat1
 have hov1:some o≠v1.ownBlock:=by
  rcases hat with h|h
  ·rw [h];exact HOV.out
  rw [h];intro e;injection e with e;omega
 have hiv1:some w.heap.size≠v1.ownBlock:=by
  rcases hat with h|h
  ·rw [h];intro e;have:=HVW.out _ e.symm;omega
  rw [h];intro e;injection e with e;omega
 clear hown1 hown1' hg1 hat1 hi0 hz0 hz1 hz2
 go_wp2_with fail
 refine HS.out.mono ?_
 rintro e w2 ⟨rfl,hown2,hg2⟩
 clear HS
 have hg02:w.grownBy w2 v.ownBlock:=hA.andThen hg2 fun j ej=>by
  rcases hat with h|h
  ·rw [h] at ej;exact .inr ej
  rw [h] at ej;injection ej with ej;exact .inl (by omega)
 have kb2:=kb1.kept hg2 hiv1
 have hsz2:w.heap.size+2≤w2.heap.size:=nLt hz1' hg2.size
 have hP0:OutP o w2 [] w2:=⟨⟨rfl,rfl,rfl,Nat.le_refl _,fun _ _ _=>rfl⟩,by omega,_,HBX.out.kept hg02 HOV.out,World.ownsRow_nil _ _ _ _,fun _=>rfl⟩
 have HF:=Hh (fun L s W=>HF.out w2 L s W hg02)
 have HEND:=Hh hg02
 clear kb1 hA hg02 hg2 b0 HOWN HB2
 have hSl:((l++[a,b]).mergeSort fun x y=>decide (x≤y)).length=l.length+2:=by rw [List.length_mergeSort,List.length_append];rfl
 obtain ⟨S,hS⟩:∃ S,S=((l++[a,b]).mergeSort fun x y=>decide (x≤y)):=⟨_,rfl⟩
 rw [←hS] at hown2 hSl
 have HSE:=Hh hS
 clear hS
 have HR:=Hh (Zz7 (enc:=enc1) (fun _=>rfl) (show w2.ownsRow base 3 1 v1 (l.length+2) (S.flatMap (fun x=>[A C x])) from by rw [Zz61];exact hown2) hSl)
 obtain ⟨A1,c1,rfl⟩:=Zzb HR.out
 have i0:=kb2.cell 0 (v:=A C a) rfl
 have i1:=kb2.cell 1 (v:=A C b) rfl
 go_wp2
 clear i0 i1
 go_loopw [6,22] (fun v6 v7 wr=>∃ k:Nat,k≤S.length∧v7=A C k∧v6=A C (lastC b a (S.take k))∧OutP o w2 ((piecesC b a (S.take k)).flatMap h) wr) (fun _ v7 _=>S.length-(intOf v7).toNat)
 case atStart=>exact ⟨0,Nat.zero_le _,rfl,rfl,hP0⟩
 case round =>
  obtain ⟨k,hk,rfl,rfl,hP⟩:=hrel
  have kbr:=kb2.kept hP.1 (by intro e;injection e with e;omega)
  have i0:=kbr.cell 0 (v:=A C a) rfl
  have i1:=kbr.cell 1 (v:=A C b) rfl
  have hir:=kbr.lt
  by_cases hlt:k<S.length
  ·obtain ⟨g,off,hA1,hg,hcg⟩:∃ g off,A1=some ⟨g,off,D⟩∧g<w2.heap.size∧w2.cell? ⟨g,off+k,D⟩=some (A C S[k]!):=by
    rcases HR.out with ⟨e,_⟩|⟨g,off,c2,hv,hg,hc⟩
    ·rw [e] at hlt;simp at hlt
    injection hv with e1 _ _
    refine ⟨g,off,e1,hg,?_⟩
    have:=hc k hlt 0 _ rfl
    rwa [Nat.mul_one] at this
   subst hA1
   have c0:wr.cell? ⟨g,off+k,D⟩=some (A C S[k]!):=(hP.1.cell_far ⟨g,off+k,D⟩ hg (fun e=>hov1 e.symm)).trans hcg
   have htk:S.take (k+1)=S.take k++[S[k]!]:=by rw [List.take_succ_eq_append_getElem hlt,getElem!_pos S k hlt]
   have hsn:=Hh (Zz1o b S[k]! a (S.take k))
   rw [←htk] at hsn
   have hFb:=Zz46 b a (S.take k) (by omega)
   have hfl:=Zz42 hh (piecesC b a (S.take k))
   have hpl:=Zz13 b a (S.take k)
   rw [List.length_take] at hpl
   have HFk:=Hh (fun s hs1 hs2 hs3=>HF.out ((piecesC b a (S.take k)).flatMap h) s wr hP hs1 hs2 hs3 (by omega))
   have HP:=Hh hP
   clear hcg htk hfl hpl HR hP
   generalize lastC b a (S.take k)=F at *
   generalize S[k]! = c at *
   by_cases h1:F<c
   ·have d1:decide (F<c)=true:=dTt h1
    by_cases h2:c≤b
    ·have d2:decide (c≤b)=true:=dTt h2
     have HFk:=Hh (HFk.out ⟨F,c⟩ hFb.1 h1 h2)
     go_wp2_with fail
     refine HFk.out.mono ?_
     rintro e wn ⟨rfl,hPn⟩
     go_wp2
     go_roundw
     case rel =>
      refine ⟨k+1,by omega,by go_num,by rw [hsn.out.2,if_pos ⟨h1,h2⟩],?_⟩
      rw [hsn.out.1,if_pos ⟨h1,h2⟩,List.flatMap_append,show [(⟨F,c⟩:Spn)].flatMap h=h ⟨F,c⟩ by simp]
      exact hPn
     case measure=>simp [intOf];omega
    have d2:decide (c≤b)=false:=dFf h2
    go_wp2
    go_roundw
    case rel=>exact ⟨k+1,by omega,by go_num,by rw [hsn.out.2,if_neg (fun h=>h2 h.2)],by rw [hsn.out.1,if_neg (fun h=>h2 h.2),List.append_nil];exact HP.out⟩
    case measure=>simp [intOf];omega
   have d1:decide (F<c)=false:=dFf h1
   go_wp2
   go_roundw
   case rel=>exact ⟨k+1,by omega,by go_num,by rw [hsn.out.2,if_neg (fun h=>h1 h.1)],by rw [hsn.out.1,if_neg (fun h=>h1 h.1),List.append_nil];exact HP.out⟩
   case measure=>simp [intOf];omega
  have hk':k=S.length:=by omega
  subst hk'
  rw [List.take_length] at hP
  go_wp2
  go_end0
  exact ⟨rfl,w2,HEND.out,by rw [←HSE.out];exact hP⟩
end Go.Proofs.YtmmgdjgcikbhbaaGreat
