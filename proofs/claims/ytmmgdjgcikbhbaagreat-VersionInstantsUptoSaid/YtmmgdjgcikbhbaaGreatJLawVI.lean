/- The law VersionInstants. Printed by gen_lawvi.py. -/
import Derived.Test.YtmmgdjgcikbhbaaGreatGIn
import Derived.Test.YtmmgdjgcikbhbaaGreatGVe
namespace Go.Proofs.YtmmgdjgcikbhbaaGreat
set_option linter.unusedSimpArgs false
set_option linter.unusedVariables false
open Go.ChangeShapes Go.WideShapes Go.ChangeAt Go.RowKit
theorem big_parts {z q:Zn} (h:(bigV z || bigV q)=false):(z.table.length≤60∧z.tail.length≤6)∧q.table.length≤60∧q.tail.length≤6:=by
 unfold bigV at h
 simp at h
 omega
set_option maxRecDepth 100000 in
set_option maxHeartbeats 8000000 in
theorem law_VersionInstants (z:Zn) (vTz vRz:Value) (q:Zn) (vTq vRq:Value) (a b:Int) (w:World) (hfz:z.form.size≤2000000) (hfq:q.form.size≤2000000) (hTz:Rd Trn.cells 4 w vTz z.table) (hRz:Rd Rule.cells 11 w vRz z.tail) (hTq:Rd Trn.cells 4 w vTq q.table) (hRq:Rd Rule.cells 11 w vRq q.tail) (hm:HasMax w) :
  Calls Tryz.prog 3 #[z.v vTz vRz,q.v vTq vRq,.agg #[.int .i64 a,.int .i64 b]] w fun e w'=>e=.returned (.bool true)∧Below w.heap.size w w':=by
 have HA:=Hh (fun W (hb:Below w.heap.size w W)=>Zz7j W (hm.on hb))
 have HL:=Hh (fun W=>long_any a b 20 (by decide) W)
 have HI1:=Hh (fun l1 l2 l3 l4 hs W (hb:Below w.heap.size w W)=>Zz34 z q vTz vRz vTq vRq a b W (hm.on hb) (hTz.on hb) (hRz.on hb) (hTq.on hb) (hRq.on hb) (by omega) (by omega) l1 l2 l3 l4 hs)
 have HV1:=Hh (fun l W (hb:Below w.heap.size w W)=>ZzD z vTz vRz W (hm.on hb) (hTz.on hb) (hRz.on hb) (by omega) (.inl l))
 have HV2:=Hh (fun l W (hb:Below w.heap.size w W)=>ZzD q vTq vRq W (hm.on hb) (hTq.on hb) (hRq.on hb) (by omega) (.inl l))
 have HSP:=Hh (fun W=>Zz3x a b W)
 have HRI:=Hh (fun l1 l2 l3 l4 v1 v2 hs hab hc1 hc2 W (hb:Below w.heap.size w W)=>Zz5y z vTz vRz q vTq vRq a b W (hTz.on hb) (hRz.on hb) (hTq.on hb) (hRq.on hb) hfz hfq l1 l2 l3 l4 v1 v2 hs hab hc1 hc2)
 obtain ⟨AT,cT,rfl⟩:=Zzh hTz
 obtain ⟨AR,cR,rfl⟩:=Zzh hRz
 obtain ⟨AU,cU,rfl⟩:=Zzh hTq
 obtain ⟨AS,cS,rfl⟩:=Zzh hRq
 have HG:=Hh (fun g W hg hc=>Zz7c ⟨z,.slice AT z.table.length cT,.slice AR z.tail.length cR,⟨_,_,rfl⟩,⟨_,_,rfl⟩⟩ ⟨q,.slice AU q.table.length cU,.slice AS q.tail.length cS,⟨_,_,rfl⟩,⟨_,_,rfl⟩⟩ g W hg hc)
 clear hTz hRz hTq hRq hm hfz hfq
 unfold encZ Zn.cellsZ at HG
 dsimp only at HG
 unfold InstEnd at HI1
 have b0:=((Blk.new w #[.string z.nm,.int .i64 z.first.off,.int .i64 z.first.sv,.string z.first.nm,.slice AT z.table.length cT,.slice AR z.tail.length cR,.int .i64 z.off,.string z.form,.int .i64 z.year] 27).alloc (.cells #[.string q.nm,.int .i64 q.first.off,.int .i64 q.first.sv,.string q.first.nm,.slice AU q.table.length cU,.slice AS q.tail.length cS,.int .i64 q.off,.string q.form,.int .i64 q.year] 27)).alloc (.cells #[.int .i64 a,.int .i64 b] 29)
 have b1:=(Blk.new (w.alloc (.cells #[.string z.nm,.int .i64 z.first.off,.int .i64 z.first.sv,.string z.first.nm,.slice AT z.table.length cT,.slice AR z.tail.length cR,.int .i64 z.off,.string z.form,.int .i64 z.year] 27)) #[.string q.nm,.int .i64 q.first.off,.int .i64 q.first.sv,.string q.first.nm,.slice AU q.table.length cU,.slice AS q.tail.length cS,.int .i64 q.off,.string q.form,.int .i64 q.year] 27).alloc (.cells #[.int .i64 a,.int .i64 b] 29)
 have b2:=Blk.new ((w.alloc (.cells #[.string z.nm,.int .i64 z.first.off,.int .i64 z.first.sv,.string z.first.nm,.slice AT z.table.length cT,.slice AR z.tail.length cR,.int .i64 z.off,.string z.form,.int .i64 z.year] 27)).alloc (.cells #[.string q.nm,.int .i64 q.first.off,.int .i64 q.first.sv,.string q.first.nm,.slice AU q.table.length cU,.slice AS q.tail.length cS,.int .i64 q.off,.string q.form,.int .i64 q.year] 27)) #[.int .i64 a,.int .i64 b] 29
 simp only [World.size_alloc] at b1 b2
 have hB3:Below w.heap.size w (((w.alloc (.cells #[.string z.nm,.int .i64 z.first.off,.int .i64 z.first.sv,.string z.first.nm,.slice AT z.table.length cT,.slice AR z.tail.length cR,.int .i64 z.off,.string z.form,.int .i64 z.year] 27)).alloc (.cells #[.string q.nm,.int .i64 q.first.off,.int .i64 q.first.sv,.string q.first.nm,.slice AU q.table.length cU,.slice AS q.tail.length cS,.int .i64 q.off,.string q.form,.int .i64 q.year] 27)).alloc (.cells #[.int .i64 a,.int .i64 b] 29)):=((bLR.alloc nlR _).alloc (by simp) _).alloc (by simp;omega) _
 unfold Zn.v at HI1 HV1 HV2 HRI ⊢
 go_enter Tryz.func3,Tryz.ntmps3
 go_wp2_with fail
 generalize (((w.alloc (.cells #[.string z.nm,.int .i64 z.first.off,.int .i64 z.first.sv,.string z.first.nm,.slice AT z.table.length cT,.slice AR z.tail.length cR,.int .i64 z.off,.string z.form,.int .i64 z.year] 27)).alloc (.cells #[.string q.nm,.int .i64 q.first.off,.int .i64 q.first.sv,.string q.first.nm,.slice AU q.table.length cU,.slice AS q.tail.length cS,.int .i64 q.off,.string q.form,.int .i64 q.year] 27)).alloc (.cells #[.int .i64 a,.int .i64 b] 29))=W at *
 have hw:w.heap.size≤W.heap.size:=hB3.size
 refine (HA.out W hB3).mono ?_
 rintro e w1 ⟨rfl,hb1⟩
 clear HA
 have Kz:=b0.below hb1 b0.lt
 have Lz:=Kz.lt
 have z0:=Zz1 Kz 0 _ rfl
 have z1:=Zz1 Kz 1 _ rfl
 have z2:=Zz1 Kz 2 _ rfl
 have z3:=Zz1 Kz 3 _ rfl
 have z4:=Zz1 Kz 4 _ rfl
 have z5:=Zz1 Kz 5 _ rfl
 have z6:=Zz1 Kz 6 _ rfl
 have z7:=Zz1 Kz 7 _ rfl
 have z8:=Zz1 Kz 8 _ rfl
 have Kq:=b1.below hb1 b1.lt
 have Lq:=Kq.lt
 have q0:=Zz1 Kq 0 _ rfl
 have q1:=Zz1 Kq 1 _ rfl
 have q2:=Zz1 Kq 2 _ rfl
 have q3:=Zz1 Kq 3 _ rfl
 have q4:=Zz1 Kq 4 _ rfl
 have q5:=Zz1 Kq 5 _ rfl
 have q6:=Zz1 Kq 6 _ rfl
 have q7:=Zz1 Kq 7 _ rfl
 have q8:=Zz1 Kq 8 _ rfl
 have Ki:=b2.below hb1 b2.lt
 have Li:=Ki.lt
 have i0:=Zz1 Ki 0 _ rfl
 have i1:=Zz1 Ki 1 _ rfl
 have ba:=Blk.new w1 #[.string z.nm,.int .i64 z.first.off,.int .i64 z.first.sv,.string z.first.nm,.slice AT z.table.length cT,.slice AR z.tail.length cR,.int .i64 z.off,.string z.form,.int .i64 z.year,.string q.nm,.int .i64 q.first.off,.int .i64 q.first.sv,.string q.first.nm,.slice AU q.table.length cU,.slice AS q.tail.length cS,.int .i64 q.off,.string q.form,.int .i64 q.year] 27
 have hb2:Below W.heap.size W (w1.alloc (.cells #[.string z.nm,.int .i64 z.first.off,.int .i64 z.first.sv,.string z.first.nm,.slice AT z.table.length cT,.slice AR z.tail.length cR,.int .i64 z.off,.string z.form,.int .i64 z.year,.string q.nm,.int .i64 q.first.off,.int .i64 q.first.sv,.string q.first.nm,.slice AU q.table.length cU,.slice AS q.tail.length cS,.int .i64 q.off,.string q.form,.int .i64 q.year] 27)):=hb1.alloc hb1.size _
 go_wp2_with fail
 generalize hwa:w1.alloc (.cells #[.string z.nm,.int .i64 z.first.off,.int .i64 z.first.sv,.string z.first.nm,.slice AT z.table.length cT,.slice AR z.tail.length cR,.int .i64 z.off,.string z.form,.int .i64 z.year,.string q.nm,.int .i64 q.first.off,.int .i64 q.first.sv,.string q.first.nm,.slice AU q.table.length cU,.slice AS q.tail.length cS,.int .i64 q.off,.string q.form,.int .i64 q.year] 27)=w2 at *
 clear hwa
 refine (HG.out _ w2 ba.lt (fun j u hj=>ba.cell j (by simpa using hj))).mono ?_
 rintro e w3 ⟨rfl,hb3⟩
 have hb3:=hb2.trans (hb3.mono hb2.size)
 clear Kz Lz z0 z1 z2 z3 z4 z5 z6 z7 z8 Kq Lq q0 q1 q2 q3 q4 q5 q6 q7 q8 Ki Li i0 i1
 clear HG ba
 by_cases hbig:(bigV z || bigV q)=true
 ·rw [hbig]
  go_wp2
  go_ret
  exact ⟨rfl,hB3.trans (hb3.mono hw)⟩
 have hbig0:(bigV z || bigV q)=false:=by simpa using hbig
 rw [hbig0]
 obtain ⟨⟨hzt,hzl⟩,hqt,hql⟩:=big_parts hbig0
 clear hbig hbig0
 have Ki:=b2.below hb3 b2.lt
 have Li:=Ki.lt
 have i0:=Zz1 Ki 0 _ rfl
 have i1:=Zz1 Ki 1 _ rfl
 go_wp2_with fail
 refine (HL.out w3).mono ?_
 rintro e w4 ⟨rfl,hb4⟩
 have hb4:=hb3.trans (hb4.mono hb3.size)
 clear Ki Li i0 i1
 by_cases hlg:longV a b 20=true
 ·rw [hlg]
  go_wp2
  go_ret
  exact ⟨rfl,hB3.trans (hb4.mono hw)⟩
 have hlg0:longV a b 20=false:=by simpa using hlg
 rw [hlg0]
 have hspan:spanV a b=true→b-a≤632448000:=by
  intro hs
  unfold longV at hlg0
  rw [hs] at hlg0
  simp at hlg0
  omega
 have HSN:=Hh hspan
 clear hlg hlg0 HL
 have HI1:=Hh (fun W hb=>HI1.out (by omega) (by omega) (by omega) (by omega) (fun h=>by have:=hspan h;omega) W hb)
 have HV1:=Hh (fun W hb=>HV1.out (by omega) W hb)
 have HV2:=Hh (fun W hb=>HV2.out (by omega) W hb)
 have HRI:=Hh (fun v1 v2 hs=>HRI.out (by omega) (by omega) (by omega) (by omega) v1 v2 hs (by have:=hspan hs;omega) (by have:=Zz4u (T:=60) (R:=6) (Y:=21) v1 hzt hzl (a:=a) (b:=b) (by have:=hspan hs;omega);omega) (by have:=Zz4u (T:=60) (R:=6) (Y:=21) v2 hqt hql (a:=a) (b:=b) (by have:=hspan hs;omega);omega))
 clear hspan
 have Kz:=b0.below hb4 b0.lt
 have Lz:=Kz.lt
 have z0:=Zz1 Kz 0 _ rfl
 have z1:=Zz1 Kz 1 _ rfl
 have z2:=Zz1 Kz 2 _ rfl
 have z3:=Zz1 Kz 3 _ rfl
 have z4:=Zz1 Kz 4 _ rfl
 have z5:=Zz1 Kz 5 _ rfl
 have z6:=Zz1 Kz 6 _ rfl
 have z7:=Zz1 Kz 7 _ rfl
 have z8:=Zz1 Kz 8 _ rfl
 have Kq:=b1.below hb4 b1.lt
 have Lq:=Kq.lt
 have q0:=Zz1 Kq 0 _ rfl
 have q1:=Zz1 Kq 1 _ rfl
 have q2:=Zz1 Kq 2 _ rfl
 have q3:=Zz1 Kq 3 _ rfl
 have q4:=Zz1 Kq 4 _ rfl
 have q5:=Zz1 Kq 5 _ rfl
 have q6:=Zz1 Kq 6 _ rfl
 have q7:=Zz1 Kq 7 _ rfl
 have q8:=Zz1 Kq 8 _ rfl
 have Ki:=b2.below hb4 b2.lt
 have Li:=Ki.lt
 have i0:=Zz1 Ki 0 _ rfl
 have i1:=Zz1 Ki 1 _ rfl
 go_wp2_with fail
 refine (HI1.out w4 (hB3.trans (hb4.mono hw))).mono ?_
 rintro e w5 ⟨hb5,h5⟩
 have hbA5:=hb4.trans (hb5.mono hb4.size)
 clear HI1
 clear Kz Lz z0 z1 z2 z3 z4 z5 z6 z7 z8 Kq Lq q0 q1 q2 q3 q4 q5 q6 q7 q8 Ki Li i0 i1
 have HBW:=Hh (fun w' (hb:Below W.heap.size W w')=>hB3.trans (hb.mono hw))
 have Kz:=b0.below hbA5 b0.lt
 have Lz:=Kz.lt
 have z0:=Zz1 Kz 0 _ rfl
 have z1:=Zz1 Kz 1 _ rfl
 have z2:=Zz1 Kz 2 _ rfl
 have z3:=Zz1 Kz 3 _ rfl
 have z4:=Zz1 Kz 4 _ rfl
 have z5:=Zz1 Kz 5 _ rfl
 have z6:=Zz1 Kz 6 _ rfl
 have z7:=Zz1 Kz 7 _ rfl
 have z8:=Zz1 Kz 8 _ rfl
 rcases h5 with ⟨hbad,rfl⟩|⟨hvz,hvq,hsp,out,u5,hc5,hm5,hl5,rfl,hown5⟩
 ·cases hvz:z.valid
  ·rw [hvz] at HV1
   clear hbad hvz
   go_wp2_with fail
   refine (HV1.out _ (HBW.out _ hbA5)).mono ?_
   rintro e w6 ⟨rfl,hb6⟩
   have hbA6:=hbA5.trans (hb6.mono hbA5.size)
   clear HV1
   clear Kz Lz z0 z1 z2 z3 z4 z5 z6 z7 z8
   go_wp2
   go_ret
   exact ⟨rfl,HBW.out _ hbA6⟩
  ·rw [hvz] at HV1
   go_wp2_with fail
   refine (HV1.out _ (HBW.out _ hbA5)).mono ?_
   rintro e w6 ⟨rfl,hb6⟩
   have hbA6:=hbA5.trans (hb6.mono hbA5.size)
   clear HV1
   clear Kz Lz z0 z1 z2 z3 z4 z5 z6 z7 z8
   cases hvq:q.valid
   ·rw [hvq] at HV2
    clear hbad hvz hvq
    have Kq:=b1.below hbA6 b1.lt
    have Lq:=Kq.lt
    have q0:=Zz1 Kq 0 _ rfl
    have q1:=Zz1 Kq 1 _ rfl
    have q2:=Zz1 Kq 2 _ rfl
    have q3:=Zz1 Kq 3 _ rfl
    have q4:=Zz1 Kq 4 _ rfl
    have q5:=Zz1 Kq 5 _ rfl
    have q6:=Zz1 Kq 6 _ rfl
    have q7:=Zz1 Kq 7 _ rfl
    have q8:=Zz1 Kq 8 _ rfl
    go_wp2_with fail
    refine (HV2.out _ (HBW.out _ hbA6)).mono ?_
    rintro e w7 ⟨rfl,hb7⟩
    have hbA7:=hbA6.trans (hb7.mono hbA6.size)
    clear HV2
    clear Kq Lq q0 q1 q2 q3 q4 q5 q6 q7 q8
    go_wp2
    go_ret
    exact ⟨rfl,HBW.out _ hbA7⟩
   ·rw [hvq] at HV2
    have Kq:=b1.below hbA6 b1.lt
    have Lq:=Kq.lt
    have q0:=Zz1 Kq 0 _ rfl
    have q1:=Zz1 Kq 1 _ rfl
    have q2:=Zz1 Kq 2 _ rfl
    have q3:=Zz1 Kq 3 _ rfl
    have q4:=Zz1 Kq 4 _ rfl
    have q5:=Zz1 Kq 5 _ rfl
    have q6:=Zz1 Kq 6 _ rfl
    have q7:=Zz1 Kq 7 _ rfl
    have q8:=Zz1 Kq 8 _ rfl
    go_wp2_with fail
    refine (HV2.out _ (HBW.out _ hbA6)).mono ?_
    rintro e w7 ⟨rfl,hb7⟩
    have hbA7:=hbA6.trans (hb7.mono hbA6.size)
    clear HV2
    clear Kq Lq q0 q1 q2 q3 q4 q5 q6 q7 q8
    have hsf:spanV a b=false:=by rcases hbad with h|h|h <;> simp_all
    rw [hsf] at HSP
    clear hbad hvz hvq hsf
    have Ki:=b2.below hbA7 b2.lt
    have Li:=Ki.lt
    have i0:=Zz1 Ki 0 _ rfl
    have i1:=Zz1 Ki 1 _ rfl
    go_wp2_with fail
    refine (HSP.out _).mono ?_
    rintro e w8 ⟨rfl,hb8⟩
    have hbA8:=hbA7.trans (hb8.mono hbA7.size)
    clear HSP
    clear Ki Li i0 i1
    go_wp2
    go_ret
    exact ⟨rfl,HBW.out _ hbA8⟩
 ·have HR5:=Hh (Zz8 Zzz hown5 rfl)
  have hsb:a<b:=by
   unfold spanV at hsp
   simp at hsp
   omega
  have hri:=ref_ins hvz hvq hsb
  have hsame:runsI (difP z q) (endsI (endsS z q a b) []) []=out:=Zz2F hri.1 hc5 fun x=>by rw [hri.2 x,hm5 x]
  have HRJ:=Hh (HRI.out hvz hvq hsp)
  rw [hsame] at HRJ
  rw [hvz] at HV1
  rw [hvq] at HV2
  rw [hsp] at HSP
  obtain ⟨A5,c5,rfl⟩:=Zzh HR5.out
  clear hown5 hvz hvq hsp hri hsame hm5 hc5 HRI hsb
  go_wp2_with fail
  refine (HV1.out _ (HBW.out _ hbA5)).mono ?_
  rintro e w6 ⟨rfl,hb6⟩
  have hbA6:=hbA5.trans (hb6.mono hbA5.size)
  clear HV1
  clear Kz Lz z0 z1 z2 z3 z4 z5 z6 z7 z8
  have Kq:=b1.below hbA6 b1.lt
  have Lq:=Kq.lt
  have q0:=Zz1 Kq 0 _ rfl
  have q1:=Zz1 Kq 1 _ rfl
  have q2:=Zz1 Kq 2 _ rfl
  have q3:=Zz1 Kq 3 _ rfl
  have q4:=Zz1 Kq 4 _ rfl
  have q5:=Zz1 Kq 5 _ rfl
  have q6:=Zz1 Kq 6 _ rfl
  have q7:=Zz1 Kq 7 _ rfl
  have q8:=Zz1 Kq 8 _ rfl
  go_wp2_with fail
  refine (HV2.out _ (HBW.out _ hbA6)).mono ?_
  rintro e w7 ⟨rfl,hb7⟩
  have hbA7:=hbA6.trans (hb7.mono hbA6.size)
  clear HV2
  clear Kq Lq q0 q1 q2 q3 q4 q5 q6 q7 q8
  have Ki:=b2.below hbA7 b2.lt
  have Li:=Ki.lt
  have i0:=Zz1 Ki 0 _ rfl
  have i1:=Zz1 Ki 1 _ rfl
  go_wp2_with fail
  refine (HSP.out _).mono ?_
  rintro e w8 ⟨rfl,hb8⟩
  have hbA8:=hbA7.trans (hb8.mono hbA7.size)
  clear HSP
  clear Ki Li i0 i1
  have Kz:=b0.below hbA8 b0.lt
  have Lz:=Kz.lt
  have z0:=Zz1 Kz 0 _ rfl
  have z1:=Zz1 Kz 1 _ rfl
  have z2:=Zz1 Kz 2 _ rfl
  have z3:=Zz1 Kz 3 _ rfl
  have z4:=Zz1 Kz 4 _ rfl
  have z5:=Zz1 Kz 5 _ rfl
  have z6:=Zz1 Kz 6 _ rfl
  have z7:=Zz1 Kz 7 _ rfl
  have z8:=Zz1 Kz 8 _ rfl
  have Kq:=b1.below hbA8 b1.lt
  have Lq:=Kq.lt
  have q0:=Zz1 Kq 0 _ rfl
  have q1:=Zz1 Kq 1 _ rfl
  have q2:=Zz1 Kq 2 _ rfl
  have q3:=Zz1 Kq 3 _ rfl
  have q4:=Zz1 Kq 4 _ rfl
  have q5:=Zz1 Kq 5 _ rfl
  have q6:=Zz1 Kq 6 _ rfl
  have q7:=Zz1 Kq 7 _ rfl
  have q8:=Zz1 Kq 8 _ rfl
  have Ki:=b2.below hbA8 b2.lt
  have Li:=Ki.lt
  have i0:=Zz1 Ki 0 _ rfl
  have i1:=Zz1 Ki 1 _ rfl
  have HR8:=Hh (((HR5.out.on hb6).on hb7).on hb8)
  go_wp2_with fail
  refine (HRJ.out _ (HBW.out _ hbA8)).mono ?_
  rintro e w9 ⟨v9,rfl,r9,hb9⟩
  have hbA9:=hbA8.trans (hb9.mono hbA8.size)
  have HR9:=Hh (HR8.out.on hb9)
  have HQ9:=Hh r9
  obtain ⟨A9,c9,rfl⟩:=Zzh r9
  clear HRJ r9
  clear Kz Lz z0 z1 z2 z3 z4 z5 z6 z7 z8 Kq Lq q0 q1 q2 q3 q4 q5 q6 q7 q8 Ki Li i0 i1
  go_wp2_with fail
  refine (same_yes out _ _ _ (by omega) HR9.out HQ9.out).mono ?_
  rintro e w10 ⟨rfl,hb10⟩
  go_wp2
  go_ret
  exact ⟨rfl,HBW.out _ (hbA9.trans (hb10.mono hbA9.size))⟩
end Go.Proofs.YtmmgdjgcikbhbaaGreat
