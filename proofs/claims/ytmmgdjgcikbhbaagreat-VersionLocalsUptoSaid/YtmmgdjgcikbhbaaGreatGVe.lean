/- Joined by merge.py: VerA, VerW5, VerC, VerW6, EqS, VerAw. -/
import Derived.Laws.BytesArg
import Derived.Test.YtmmgdjgcikbhbaaGreatGVs
import Derived.Test.YtmmgdjgcikbhbaaGreatGLx
import Derived.IntWalk
import Derived.Maps.RangeWalk
/- zone.Fixed at two offsets. Printed by gen_vera.py. -/
open Go.Value renaming int → C, string → G, slice → H
open Go.IntKind renaming i64 → E
open Option renaming none → I
open Go.Obj renaming cells → J
open Go.Ending renaming returned → K
namespace Go.Proofs.YtmmgdjgcikbhbaaGreat
set_option linter.unusedSimpArgs false
set_option linter.unusedVariables false
open Go.ChangeShapes Go.WideShapes Go.ChangeAt Go.RowKit
set_option maxRecDepth 100000 in
theorem fix1_0 (w:World):Calls Tryz.prog 39 #[C E 0] w fun e w'=>e=K (G ⟨#[48,48]⟩)∧Below w.heap.size w w':=by
 have hcv:(convert 77 9 (H (some ⟨w.heap.size,0,I⟩) 2 2)).run Tryz.prog (w.alloc (J #[.int .u8 48,.int .u8 48] 5))=.ok (G ⟨#[48,48]⟩) (w.alloc (J #[.int .u8 48,.int .u8 48] 5)) :=
  run_convert_bytes_arg _ _ 5 Tryz.underlying77 Tryz.underlying5 w.heap.size 0 2 2 [48,48] rfl (fun i hi=>by
   have hc:=Zz2 w [.int .u8 48,.int .u8 48] 5
   rcases Nat.lt_or_ge i 1 with h|h
   ·obtain rfl:i=0:=by omega
    exact hc 0 _ rfl
   obtain rfl:i=1:=by omega
   exact hc 1 _ rfl) _ Tryz.underlying9
 have hB:Below w.heap.size w (w.alloc (J #[.int .u8 48,.int .u8 48] 5)):=bLR.alloc nlR _
 go_enter Tryz.func39,Tryz.ntmps39
 go_wp2
 go_ret
 exact ⟨rfl,hB⟩
set_option maxRecDepth 100000 in
theorem fix1_1 (w:World):Calls Tryz.prog 39 #[C E 1] w fun e w'=>e=K (G ⟨#[48,49]⟩)∧Below w.heap.size w w':=by
 have hcv:(convert 77 9 (H (some ⟨w.heap.size,0,I⟩) 2 2)).run Tryz.prog (w.alloc (J #[.int .u8 48,.int .u8 49] 5))=.ok (G ⟨#[48,49]⟩) (w.alloc (J #[.int .u8 48,.int .u8 49] 5)) :=
  run_convert_bytes_arg _ _ 5 Tryz.underlying77 Tryz.underlying5 w.heap.size 0 2 2 [48,49] rfl (fun i hi=>by
   have hc:=Zz2 w [.int .u8 48,.int .u8 49] 5
   rcases Nat.lt_or_ge i 1 with h|h
   ·obtain rfl:i=0:=by omega
    exact hc 0 _ rfl
   obtain rfl:i=1:=by omega
   exact hc 1 _ rfl) _ Tryz.underlying9
 have hB:Below w.heap.size w (w.alloc (J #[.int .u8 48,.int .u8 49] 5)):=bLR.alloc nlR _
 go_enter Tryz.func39,Tryz.ntmps39
 go_wp2
 go_ret
 exact ⟨rfl,hB⟩
set_option maxRecDepth 100000 in
theorem fix1_2 (w:World):Calls Tryz.prog 39 #[C E 2] w fun e w'=>e=K (G ⟨#[48,50]⟩)∧Below w.heap.size w w':=by
 have hcv:(convert 77 9 (H (some ⟨w.heap.size,0,I⟩) 2 2)).run Tryz.prog (w.alloc (J #[.int .u8 48,.int .u8 50] 5))=.ok (G ⟨#[48,50]⟩) (w.alloc (J #[.int .u8 48,.int .u8 50] 5)) :=
  run_convert_bytes_arg _ _ 5 Tryz.underlying77 Tryz.underlying5 w.heap.size 0 2 2 [48,50] rfl (fun i hi=>by
   have hc:=Zz2 w [.int .u8 48,.int .u8 50] 5
   rcases Nat.lt_or_ge i 1 with h|h
   ·obtain rfl:i=0:=by omega
    exact hc 0 _ rfl
   obtain rfl:i=1:=by omega
   exact hc 1 _ rfl) _ Tryz.underlying9
 have hB:Below w.heap.size w (w.alloc (J #[.int .u8 48,.int .u8 50] 5)):=bLR.alloc nlR _
 go_enter Tryz.func39,Tryz.ntmps39
 go_wp2
 go_ret
 exact ⟨rfl,hB⟩
set_option maxRecDepth 100000 in
set_option maxHeartbeats 2000000 in
theorem fixedA (w:World):Calls Tryz.prog 16 #[G ⟨#[65]⟩,C E 3600] w fun e w'=>e=K (.tuple #[.agg #[G ⟨#[65]⟩,C E 3600,C E 0,G ⟨#[43,48,49,48,48]⟩,H none 0 0,H none 0 0,C E 0,G ⟨#[]⟩,C E 0],C E 0])∧Below w.heap.size w w':=by
 have HN:=Hh (fun W=>show Calls Tryz.prog 26 #[G ⟨#[65]⟩] W fun e w'=>e=K (.bool true)∧W=w' from by
  have h:=zoneName ⟨#[65]⟩ W
  rwa [show Cv.nameZ ⟨#[65]⟩=true by decide +kernel] at h)
 have H0:=Hh (fun W=>fix1_0 W)
 have H1:=Hh (fun W=>fix1_1 W)
 go_enter Tryz.func16,Tryz.ntmps16
 have bz:=Blk.new w #[G ⟨#[]⟩,C E 0,C E 0,G ⟨#[]⟩,H none 0 0,H none 0 0,C E 0,G ⟨#[]⟩,C E 0] 27
 have hB:Below w.heap.size w (w.alloc (J #[G ⟨#[]⟩,C E 0,C E 0,G ⟨#[]⟩,H none 0 0,H none 0 0,C E 0,G ⟨#[]⟩,C E 0] 27)):=bLR.alloc nlR _
 go_wp2_with (first
  | (go_at_call 26;refine (HN.out _).mono ?_;rintro e w1 ⟨rfl,rfl⟩;clear HN)
  | (go_at_call 39;refine (H1.out _).mono ?_;rintro e w1 ⟨rfl,hb1⟩;clear H1)
  | (go_at_call 39;refine (H0.out _).mono ?_;rintro e w2 ⟨rfl,hb2⟩;have b2:=(bz.below hb1 bz.lt).below hb2 (nLl bz.lt hb1.size);have hB2:=hB.trans ((hb1.trans (hb2.mono hb1.size)).mono hB.size);have l2:=b2.lt;have r0:=Zz0 b2 0 _ rfl;have r1:=Zz0 b2 1 _ rfl;have r2:=Zz0 b2 2 _ rfl;have r3:=Zz0 b2 3 _ rfl;have r4:=Zz0 b2 4 _ rfl;have r5:=Zz0 b2 5 _ rfl;have r6:=Zz0 b2 6 _ rfl;have r7:=Zz0 b2 7 _ rfl;have r8:=Zz0 b2 8 _ rfl;have rf:=fun i=>Blk.frozen b2 i;clear H0))
 have q:=((((((((b2.setAt 0 (G ⟨#[65]⟩)).setAt 1 (C E 3600)).setAt 2 (C E 0)).setAt 3 (G (⟨#[43]⟩++(⟨#[48,49]⟩++⟨#[48,48]⟩)))).setAt 4 (H none 0 0)).setAt 5 (H none 0 0)).setAt 6 (C E 0)).setAt 7 (G ⟨#[]⟩)).setAt 8 (C E 0)
 have q0:=q.cell 0 (v:=G ⟨#[65]⟩) rfl
 have q1:=q.cell 1 (v:=C E 3600) rfl
 have q2:=q.cell 2 (v:=C E 0) rfl
 have q3:=q.cell 3 (v:=G (⟨#[43]⟩++(⟨#[48,49]⟩++⟨#[48,48]⟩))) rfl
 have q4:=q.cell 4 (v:=H none 0 0) rfl
 have q5:=q.cell 5 (v:=H none 0 0) rfl
 have q6:=q.cell 6 (v:=C E 0) rfl
 have q7:=q.cell 7 (v:=G ⟨#[]⟩) rfl
 have q8:=q.cell 8 (v:=C E 0) rfl
 have hBq:=((((((((hB2.setCell (p:=⟨w.heap.size,0,I⟩) nlR (G ⟨#[65]⟩)).setCell (p:=⟨w.heap.size,1,I⟩) nlR (C E 3600)).setCell (p:=⟨w.heap.size,2,I⟩) nlR (C E 0)).setCell (p:=⟨w.heap.size,3,I⟩) nlR (G (⟨#[43]⟩++(⟨#[48,49]⟩++⟨#[48,48]⟩)))).setCell (p:=⟨w.heap.size,4,I⟩) nlR (H none 0 0)).setCell (p:=⟨w.heap.size,5,I⟩) nlR (H none 0 0)).setCell (p:=⟨w.heap.size,6,I⟩) nlR (C E 0)).setCell (p:=⟨w.heap.size,7,I⟩) nlR (G ⟨#[]⟩)).setCell (p:=⟨w.heap.size,8,I⟩) nlR (C E 0)
 have hst:(⟨#[43]⟩++(⟨#[48,49]⟩++⟨#[48,48]⟩):ByteArray)=⟨#[43,48,49,48,48]⟩:=by decide +kernel
 clear q b2 r0 r1 r2 r3 r4 r5 r6 r7 r8 rf
 generalize (((((((((w2.setCell ⟨w.heap.size,0,I⟩ (G ⟨#[65]⟩)).setCell ⟨w.heap.size,1,I⟩ (C E 3600)).setCell ⟨w.heap.size,2,I⟩ (C E 0)).setCell ⟨w.heap.size,3,I⟩ (G (⟨#[43]⟩++(⟨#[48,49]⟩++⟨#[48,48]⟩)))).setCell ⟨w.heap.size,4,I⟩ (H none 0 0)).setCell ⟨w.heap.size,5,I⟩ (H none 0 0)).setCell ⟨w.heap.size,6,I⟩ (C E 0)).setCell ⟨w.heap.size,7,I⟩ (G ⟨#[]⟩)).setCell ⟨w.heap.size,8,I⟩ (C E 0))=w9 at *
 rw [hst] at q3
 exact bodyPost_ret (v:=.tuple #[.agg #[G ⟨#[65]⟩,C E 3600,C E 0,G ⟨#[43,48,49,48,48]⟩,H none 0 0,H none 0 0,C E 0,G ⟨#[]⟩,C E 0],C E 0]) (by simp [results,Tryz.results16,go_sem,q0,q1,q2,q3,q4,q5,q6,q7,q8]) rfl ⟨rfl,hBq⟩
set_option maxRecDepth 100000 in
set_option maxHeartbeats 2000000 in
theorem fixedB (w:World):Calls Tryz.prog 16 #[G ⟨#[66]⟩,C E 7200] w fun e w'=>e=K (.tuple #[.agg #[G ⟨#[66]⟩,C E 7200,C E 0,G ⟨#[43,48,50,48,48]⟩,H none 0 0,H none 0 0,C E 0,G ⟨#[]⟩,C E 0],C E 0])∧Below w.heap.size w w':=by
 have HN:=Hh (fun W=>show Calls Tryz.prog 26 #[G ⟨#[66]⟩] W fun e w'=>e=K (.bool true)∧W=w' from by
  have h:=zoneName ⟨#[66]⟩ W
  rwa [show Cv.nameZ ⟨#[66]⟩=true by decide +kernel] at h)
 have H0:=Hh (fun W=>fix1_0 W)
 have H1:=Hh (fun W=>fix1_2 W)
 go_enter Tryz.func16,Tryz.ntmps16
 have bz:=Blk.new w #[G ⟨#[]⟩,C E 0,C E 0,G ⟨#[]⟩,H none 0 0,H none 0 0,C E 0,G ⟨#[]⟩,C E 0] 27
 have hB:Below w.heap.size w (w.alloc (J #[G ⟨#[]⟩,C E 0,C E 0,G ⟨#[]⟩,H none 0 0,H none 0 0,C E 0,G ⟨#[]⟩,C E 0] 27)):=bLR.alloc nlR _
 go_wp2_with (first
  | (go_at_call 26;refine (HN.out _).mono ?_;rintro e w1 ⟨rfl,rfl⟩;clear HN)
  | (go_at_call 39;refine (H1.out _).mono ?_;rintro e w1 ⟨rfl,hb1⟩;clear H1)
  | (go_at_call 39;refine (H0.out _).mono ?_;rintro e w2 ⟨rfl,hb2⟩;have b2:=(bz.below hb1 bz.lt).below hb2 (nLl bz.lt hb1.size);have hB2:=hB.trans ((hb1.trans (hb2.mono hb1.size)).mono hB.size);have l2:=b2.lt;have r0:=Zz0 b2 0 _ rfl;have r1:=Zz0 b2 1 _ rfl;have r2:=Zz0 b2 2 _ rfl;have r3:=Zz0 b2 3 _ rfl;have r4:=Zz0 b2 4 _ rfl;have r5:=Zz0 b2 5 _ rfl;have r6:=Zz0 b2 6 _ rfl;have r7:=Zz0 b2 7 _ rfl;have r8:=Zz0 b2 8 _ rfl;have rf:=fun i=>Blk.frozen b2 i;clear H0))
 have q:=((((((((b2.setAt 0 (G ⟨#[66]⟩)).setAt 1 (C E 7200)).setAt 2 (C E 0)).setAt 3 (G (⟨#[43]⟩++(⟨#[48,50]⟩++⟨#[48,48]⟩)))).setAt 4 (H none 0 0)).setAt 5 (H none 0 0)).setAt 6 (C E 0)).setAt 7 (G ⟨#[]⟩)).setAt 8 (C E 0)
 have q0:=q.cell 0 (v:=G ⟨#[66]⟩) rfl
 have q1:=q.cell 1 (v:=C E 7200) rfl
 have q2:=q.cell 2 (v:=C E 0) rfl
 have q3:=q.cell 3 (v:=G (⟨#[43]⟩++(⟨#[48,50]⟩++⟨#[48,48]⟩))) rfl
 have q4:=q.cell 4 (v:=H none 0 0) rfl
 have q5:=q.cell 5 (v:=H none 0 0) rfl
 have q6:=q.cell 6 (v:=C E 0) rfl
 have q7:=q.cell 7 (v:=G ⟨#[]⟩) rfl
 have q8:=q.cell 8 (v:=C E 0) rfl
 have hBq:=((((((((hB2.setCell (p:=⟨w.heap.size,0,I⟩) nlR (G ⟨#[66]⟩)).setCell (p:=⟨w.heap.size,1,I⟩) nlR (C E 7200)).setCell (p:=⟨w.heap.size,2,I⟩) nlR (C E 0)).setCell (p:=⟨w.heap.size,3,I⟩) nlR (G (⟨#[43]⟩++(⟨#[48,50]⟩++⟨#[48,48]⟩)))).setCell (p:=⟨w.heap.size,4,I⟩) nlR (H none 0 0)).setCell (p:=⟨w.heap.size,5,I⟩) nlR (H none 0 0)).setCell (p:=⟨w.heap.size,6,I⟩) nlR (C E 0)).setCell (p:=⟨w.heap.size,7,I⟩) nlR (G ⟨#[]⟩)).setCell (p:=⟨w.heap.size,8,I⟩) nlR (C E 0)
 have hst:(⟨#[43]⟩++(⟨#[48,50]⟩++⟨#[48,48]⟩):ByteArray)=⟨#[43,48,50,48,48]⟩:=by decide +kernel
 clear q b2 r0 r1 r2 r3 r4 r5 r6 r7 r8 rf
 generalize (((((((((w2.setCell ⟨w.heap.size,0,I⟩ (G ⟨#[66]⟩)).setCell ⟨w.heap.size,1,I⟩ (C E 7200)).setCell ⟨w.heap.size,2,I⟩ (C E 0)).setCell ⟨w.heap.size,3,I⟩ (G (⟨#[43]⟩++(⟨#[48,50]⟩++⟨#[48,48]⟩)))).setCell ⟨w.heap.size,4,I⟩ (H none 0 0)).setCell ⟨w.heap.size,5,I⟩ (H none 0 0)).setCell ⟨w.heap.size,6,I⟩ (C E 0)).setCell ⟨w.heap.size,7,I⟩ (G ⟨#[]⟩)).setCell ⟨w.heap.size,8,I⟩ (C E 0))=w9 at *
 rw [hst] at q3
 exact bodyPost_ret (v:=.tuple #[.agg #[G ⟨#[66]⟩,C E 7200,C E 0,G ⟨#[43,48,50,48,48]⟩,H none 0 0,H none 0 0,C E 0,G ⟨#[]⟩,C E 0],C E 0]) (by simp [results,Tryz.results16,go_sem,q0,q1,q2,q3,q4,q5,q6,q7,q8]) rfl ⟨rfl,hBq⟩
/- The closure of version.Locals. Printed by gen_loc1.py. -/
def partV (m e n e2 i k fr to:Int):List Spn :=
 if e≠e2 then [⟨fr,to⟩]
 else if e≠0 then []
 else if i-m=k-n then (if m≠n then [⟨fr,to⟩] else [])
 else
  let x:=if i-m=to-1-fr then fr+n-m else fr+m-n
  if x<fr∨to≤x then [⟨fr,to⟩]
  else (if fr<x then [⟨fr,x⟩] else [])++(if x+1<to then [⟨x+1,to⟩] else [])
theorem partF_eq (r q:Int→Int × Int) (s:Spn):partF r q s=partV (r s.fr).1 (r s.fr).2 (q s.fr).1 (q s.fr).2 (r (s.to-1)).1 (q (s.to-1)).1 s.fr s.to:=rfl
theorem partV_ne {m e n e2 i k fr to:Int} (h:e≠e2):partV m e n e2 i k fr to=[⟨fr,to⟩]:=if_pos h
theorem partV_err {m e n i k fr to:Int} (h:e≠0):partV m e n e i k fr to=[]:=by
 unfold partV
 rw [if_neg (fun h=>h rfl),if_pos h]
theorem partV_same {m n i k fr to:Int} (h:i-m=k-n) (h2:m=n):partV m 0 n 0 i k fr to=[]:=by
 unfold partV
 rw [if_neg (fun h=>h rfl),if_neg (fun h=>h rfl),if_pos h,if_neg (fun h=>h h2)]
theorem Zz6O {m n i k fr to x:Int} (h:¬ i-m=k-n) (hx:(if i-m=to-1-fr then fr+n-m else fr+m-n)=x):partV m 0 n 0 i k fr to=if x<fr∨to≤x then [⟨fr,to⟩] else (if fr<x then [⟨fr,x⟩] else [])++(if x+1<to then [⟨x+1,to⟩] else []):=by
 unfold partV
 rw [if_neg (fun h=>h rfl),if_neg (fun h=>h rfl),if_neg h]
 simp only [hx]
theorem partV_par {m n i k fr to:Int} (h:i-m=k-n) (h2:m≠n):partV m 0 n 0 i k fr to=[⟨fr,to⟩]:=by
 unfold partV
 rw [if_neg (fun h=>h rfl),if_neg (fun h=>h rfl),if_pos h,if_pos h2]
def PartRel (o:Nat) (w0:World) (L:List Spn) (s:Spn) (x:Int) (B4:Nat) (wa:World) (j:Nat) (wr:World):Prop :=
 (j=0∧wr=wa)∨(j=1∧OutP o w0 (L++(if s.fr<x then [⟨s.fr,x⟩] else [])) wr∧Blk wr B4 #[C E s.fr,C E x,C E (x+1),C E s.to] 29)∨(j=2∧OutP o w0 (L++((if s.fr<x then [⟨s.fr,x⟩] else [])++(if x+1<s.to then [⟨x+1,s.to⟩] else []))) wr)
set_option maxRecDepth 100000 in
set_option maxHeartbeats 8000000 in
theorem loc1_any (z q:Zn) (vTz vRz vTq vRq:Value) (g f:Int) (pa pp pb o:Nat) (we w0 w:World) (L:List Spn) (s:Spn) (hs : -62135596800≤s.fr∧s.fr<s.to∧s.to≤253402300800) (hm:HasMax we)
  (hTz:Rd Trn.cells 4 we vTz z.table) (hRz:Rd Rule.cells 11 we vRz z.tail) (hTq:Rd Trn.cells 4 we vTq q.table) (hRq:Rd Rule.cells 11 we vRq q.tail) (hfz:z.form.size<4294967281) (hfq:q.form.size<4294967281) (hlz:z.tail.length≤12) (hlq:q.tail.length≤12) (htz:z.table.length≤300) (htq:q.table.length≤300)
  (hbe:Below we.heap.size we w0) (hBo:we.heap.size≤o) (ha:Blk w0 pa (z.cellsZ vTz vRz).toArray 27) (hb:Blk w0 pb (q.cellsZ vTq vRq).toArray 27) (hp:Blk w0 pp #[C E g,C E f] 44) (hao:pa≠o) (hbo:pb≠o) (hpo:pp≠o) (hlen:L.length≤6000) (hP:OutP o w0 L w) :
  Calls Tryz.prog 35 #[.agg #[C E s.fr,C E s.to],.pointer (some ⟨pa,0,I⟩),.pointer (some ⟨pp,0,I⟩),.pointer (some ⟨pb,0,I⟩),.pointer (some ⟨o,0,I⟩)] w fun e w'=>e=K (.tuple #[])∧OutP o w0 (L++partF (fun y=>z.resV y g f) (fun y=>q.resV y g f) s) w':=by
 have hbw:Below we.heap.size we w:=hbe.trans (hP.old hBo)
 have HA:=Hh (fun l W (hb:Below w.heap.size w W)=>Zz3y z vTz vRz l g f W (hm.on (hbw.trans (hb.mono hbw.size))) (hTz.on (hbw.trans (hb.mono hbw.size))) (hRz.on (hbw.trans (hb.mono hbw.size))) hfz hlz htz)
 have HB:=Hh (fun l W (hb:Below w.heap.size w W)=>Zz3y q vTq vRq l g f W (hm.on (hbw.trans (hb.mono hbw.size))) (hTq.on (hbw.trans (hb.mono hbw.size))) (hRq.on (hbw.trans (hb.mono hbw.size))) hfq hlq htq)
 obtain ⟨AT,cT,rfl⟩:=Zzb hTz
 obtain ⟨AR,cR,rfl⟩:=Zzb hRz
 obtain ⟨AU,cU,rfl⟩:=Zzb hTq
 obtain ⟨AS,cS,rfl⟩:=Zzb hRq
 have HP:=Hh hP
 obtain ⟨hg,ho,u,hbox,hown,_⟩:=hP
 have ka:=ha.kept hg (by simpa using hao)
 have kb:=hb.kept hg (by simpa using hbo)
 have kp:=hp.kept hg (by simpa using hpo)
 unfold Zn.cellsZ at ka kb
 clear hTz hRz hTq hRq hm hbe ha hb hp
 have HADD:=Hh (fun s wa w1 v' (hA:Below w.heap.size w wa) hown' (hgr:wa.grownBy w1 u.ownBlock)=>OutP.add (s:=s) (v':=v') hg ho hbox hown hA hown' hgr)
 have HOWN:=Hh hown
 have HBX:=Hh hbox
 have hNS:=Zzl hown
 clear hg ho hown
 have m0:=Zz7J z s.fr g f
 have m1:=Zz7J z (s.to-1) g f
 have n0:=Zz7J q s.fr g f
 have n1:=Zz7J q (s.to-1) g f
 rw [partF_eq]
 unfold Zn.v at HA HB
 have HA0:=Hh (fun W hb=>HA.out s.fr W hb)
 have HA1:=Hh (fun W hb=>HA.out (s.to-1) W hb)
 have HB0:=Hh (fun W hb=>HB.out s.fr W hb)
 have HB1:=Hh (fun W hb=>HB.out (s.to-1) W hb)
 clear HA HB
 generalize z.resV s.fr g f=R0 at *
 generalize z.resV (s.to-1) g f=R1 at *
 generalize q.resV s.fr g f=Q0 at *
 generalize q.resV (s.to-1) g f=Q1 at *
 obtain ⟨m,e⟩:=R0
 obtain ⟨i,ei⟩:=R1
 obtain ⟨n,e2⟩:=Q0
 obtain ⟨k,ek⟩:=Q1
 have b0:=Blk.new w #[C E s.fr,C E s.to] 29
 have hB0:Below w.heap.size w (w.alloc (J #[C E s.fr,C E s.to] 29)):=bLR.alloc nlR _
 have ka:=ka.alloc (J #[C E s.fr,C E s.to] 29)
 have kb:=kb.alloc (J #[C E s.fr,C E s.to] 29)
 have kp:=kp.alloc (J #[C E s.fr,C E s.to] 29)
 have Lz:=ka.lt
 have z0:=Zz0 ka 0 _ rfl
 have z1:=Zz0 ka 1 _ rfl
 have z2:=Zz0 ka 2 _ rfl
 have z3:=Zz0 ka 3 _ rfl
 have z4:=Zz0 ka 4 _ rfl
 have z5:=Zz0 ka 5 _ rfl
 have z6:=Zz0 ka 6 _ rfl
 have z7:=Zz0 ka 7 _ rfl
 have z8:=Zz0 ka 8 _ rfl
 have Lp:=kp.lt
 have p0:=Zz0 kp 0 _ rfl
 have p1:=Zz0 kp 1 _ rfl
 go_enter Tryz.func35,Tryz.ntmps35
 go_wp2_with fail
 generalize w.alloc (J #[C E s.fr,C E s.to] 29)=W at *
 refine (HA0.out W hB0).mono ?_
 rintro e' w1 ⟨rfl,hb1⟩
 clear HA0 Lz z0 z1 z2 z3 z4 z5 z6 z7 z8 Lp p0 p1
 have k0:=b0.below hb1 b0.lt
 have kb1:=kb.below hb1 kb.lt
 have kp1:=kp.below hb1 kp.lt
 have ka1:=ka.below hb1 ka.lt
 have s0:=k0.cell 0 (v:=C E s.fr) rfl
 have sl:=k0.lt
 have hB1:=hB0.trans (hb1.mono hB0.size)
 have Lq:=kb1.lt
 have q0:=Zz0 kb1 0 _ rfl
 have q1:=Zz0 kb1 1 _ rfl
 have q2:=Zz0 kb1 2 _ rfl
 have q3:=Zz0 kb1 3 _ rfl
 have q4:=Zz0 kb1 4 _ rfl
 have q5:=Zz0 kb1 5 _ rfl
 have q6:=Zz0 kb1 6 _ rfl
 have q7:=Zz0 kb1 7 _ rfl
 have q8:=Zz0 kb1 8 _ rfl
 have Lp:=kp1.lt
 have p0:=Zz0 kp1 0 _ rfl
 have p1:=Zz0 kp1 1 _ rfl
 go_wp2_with fail
 refine (HB0.out w1 hB1).mono ?_
 rintro e' w2 ⟨rfl,hb2⟩
 clear HB0 Lq q0 q1 q2 q3 q4 q5 q6 q7 q8 Lp p0 p1 s0 sl
 have k0:=k0.below hb2 k0.lt
 have kb2:=kb1.below hb2 kb1.lt
 have kp2:=kp1.below hb2 kp1.lt
 have ka2:=ka1.below hb2 ka1.lt
 have s0:=k0.cell 0 (v:=C E s.fr) rfl
 have s1:=k0.cell 1 (v:=C E s.to) rfl
 have sl:=k0.lt
 have hB2:=hB1.trans (hb2.mono hB1.size)
 have bo:=HBX.out.kept (Zzd (row:=none) hB2) (by simp)
 have o0:=bo.cell
 have ol:=bo.lt
 have HO2:=Hh (Zz8 HOWN.out hB2)
 obtain ⟨i0,hi0,hz0,hz1,hz2⟩:=info_parts Zz1J
 have hw0:=HP.out.1.size
 by_cases hne:e=e2
 case neg =>
  have dn:(e == e2)=false:=by rw [beq_eq_false_iff_ne];exact hne
  go_wp2_with (at_builtin;go_loud (refine wpList_append_own_at _ rfl _ _ 33 rfl w0.heap.size 29 i0 _ 2 16 Tryz.underlying33 hi0 hz0 hz1 hz2 rfl (by decide) u _ _ rfl (HO2.out.alloc _) ⟨_,0,I⟩ 1 1 (encN s) rfl rfl (Zz5 (by simp) _) (Zzz s) (by simp only [maxLen];omega) (by omega) (by have:=hB2.size;simp at *;omega) ?_);intro v' wz hown' hgr _ _;obtain ⟨hbz,hOut⟩:=HADD.out s _ wz v' (hB2.alloc hB2.size _) hown' hgr;obtain ⟨g',cap',rfl⟩:=ownsRow_succ hown';have oz:=hbz.cell;have of:=hbz.frozen)
  refine bodyPost_ret (v:=.tuple #[]) (by simp [results,Tryz.results35,go_sem]) rfl ⟨rfl,?_⟩
  rw [partV_ne hne]
  exact hOut
 subst hne
 have dn:(e == e)=true:=by simp
 by_cases he:e=0
 case neg =>
  have de:(e == 0)=false:=by rw [beq_eq_false_iff_ne];exact he
  go_wp2
  refine bodyPost_ret (v:=.tuple #[]) (by simp [results,Tryz.results35,go_sem]) rfl ⟨rfl,?_⟩
  rw [partV_err he,List.append_nil]
  exact HP.out.below hB2
 subst he
 have Lz:=ka2.lt
 have z0:=Zz0 ka2 0 _ rfl
 have z1:=Zz0 ka2 1 _ rfl
 have z2:=Zz0 ka2 2 _ rfl
 have z3:=Zz0 ka2 3 _ rfl
 have z4:=Zz0 ka2 4 _ rfl
 have z5:=Zz0 ka2 5 _ rfl
 have z6:=Zz0 ka2 6 _ rfl
 have z7:=Zz0 ka2 7 _ rfl
 have z8:=Zz0 ka2 8 _ rfl
 have Lp:=kp2.lt
 have p0:=Zz0 kp2 0 _ rfl
 have p1:=Zz0 kp2 1 _ rfl
 have hwt:wrap64 (s.to-1)=s.to-1:=by unfold wrap64;omega
 go_wp2_with fail
 refine (HA1.out w2 hB2).mono ?_
 rintro e' w3 ⟨rfl,hb3⟩
 clear HA1 Lz z0 z1 z2 z3 z4 z5 z6 z7 z8 Lp p0 p1 s0 s1 sl bo o0 ol HO2
 have k0:=k0.below hb3 k0.lt
 have kb3:=kb2.below hb3 kb2.lt
 have kp3:=kp2.below hb3 kp2.lt
 have s0:=k0.cell 0 (v:=C E s.fr) rfl
 have s1:=k0.cell 1 (v:=C E s.to) rfl
 have sl:=k0.lt
 have hB3:=hB2.trans (hb3.mono hB2.size)
 have Lq:=kb3.lt
 have q0:=Zz0 kb3 0 _ rfl
 have q1:=Zz0 kb3 1 _ rfl
 have q2:=Zz0 kb3 2 _ rfl
 have q3:=Zz0 kb3 3 _ rfl
 have q4:=Zz0 kb3 4 _ rfl
 have q5:=Zz0 kb3 5 _ rfl
 have q6:=Zz0 kb3 6 _ rfl
 have q7:=Zz0 kb3 7 _ rfl
 have q8:=Zz0 kb3 8 _ rfl
 have Lp:=kp3.lt
 have p0:=Zz0 kp3 0 _ rfl
 have p1:=Zz0 kp3 1 _ rfl
 go_wp2_with fail
 refine (HB1.out w3 hB3).mono ?_
 rintro e' w4 ⟨rfl,hb4⟩
 clear HB1 Lq q0 q1 q2 q3 q4 q5 q6 q7 q8 Lp p0 p1 s0 s1 sl
 have k0:=k0.below hb4 k0.lt
 have s0:=k0.cell 0 (v:=C E s.fr) rfl
 have s1:=k0.cell 1 (v:=C E s.to) rfl
 have sl:=k0.lt
 have hB4:=hB3.trans (hb4.mono hB3.size)
 have bo:=HBX.out.kept (Zzd (row:=none) hB4) (by simp)
 have o0:=bo.cell
 have ol:=bo.lt
 have HO4:=Hh (Zz8 HOWN.out hB4)
 clear hb1 hb2 hb3 hb4 ka kb kp kb1 kp1 ka1 kb2 kp2 ka2 kb3 kp3 b0 bo hB0 hB1 hB2 hB3
 by_cases hq:i-m=k-n
 ·have dq:(i-m == k-n)=true:=by rw [beq_iff_eq];exact hq
  by_cases hmn:m=n
  ·have dm:(m == n)=true:=by rw [beq_iff_eq];exact hmn
   go_wp2
   refine bodyPost_ret (v:=.tuple #[]) (by simp [results,Tryz.results35,go_sem]) rfl ⟨rfl,?_⟩
   rw [partV_same hq hmn,List.append_nil]
   exact HP.out.below hB4
  have dm:(m == n)=false:=by rw [beq_eq_false_iff_ne];exact hmn
  go_wp2_with (at_builtin;go_loud (refine wpList_append_own_at _ rfl _ _ 33 rfl w0.heap.size 29 i0 _ 2 16 Tryz.underlying33 hi0 hz0 hz1 hz2 rfl (by decide) u _ _ rfl (HO4.out.alloc _) ⟨_,0,I⟩ 1 1 (encN s) rfl rfl (Zz5 (by simp) _) (Zzz s) (by simp only [maxLen];omega) (by omega) (by have:=hB4.size;simp at *;omega) ?_);intro v' wz hown' hgr _ _;obtain ⟨hbz,hOut⟩:=HADD.out s _ wz v' (hB4.alloc hB4.size _) hown' hgr;obtain ⟨g',cap',rfl⟩:=ownsRow_succ hown';have oz:=hbz.cell;have of:=hbz.frozen)
  refine bodyPost_ret (v:=.tuple #[]) (by simp [results,Tryz.results35,go_sem]) rfl ⟨rfl,?_⟩
  rw [partV_par hq hmn]
  exact hOut
 have dq:(i-m == k-n)=false:=by rw [beq_eq_false_iff_ne];exact hq
 by_cases hl:i-m=s.to-1-s.fr
 ·have dl:(i-m == s.to-1-s.fr)=true:=by rw [beq_iff_eq];exact hl
  have HX:=Hh (Zz6O (fr:=s.fr) (to:=s.to) hq (show (if i-m=s.to-1-s.fr then s.fr+n-m else s.fr+m-n)=s.fr+n-m from if_pos hl))
  clear hl hq
  by_cases h1:s.fr+n-m<s.fr
  ·have d1:decide (s.fr+n-m<s.fr)=true:=dTt h1
   go_wp2_with (at_builtin;go_loud (refine wpList_append_own_at _ rfl _ _ 33 rfl w0.heap.size 29 i0 _ 2 16 Tryz.underlying33 hi0 hz0 hz1 hz2 rfl (by decide) u _ _ rfl (HO4.out.alloc _) ⟨_,0,I⟩ 1 1 (encN s) rfl rfl (Zz5 (by simp) _) (Zzz s) (by simp only [maxLen];omega) (by omega) (by have:=hB4.size;simp at *;omega) ?_);intro v' wz hown' hgr _ _;obtain ⟨hbz,hOut⟩:=HADD.out s _ wz v' (hB4.alloc hB4.size _) hown' hgr;obtain ⟨g',cap',rfl⟩:=ownsRow_succ hown';have oz:=hbz.cell;have of:=hbz.frozen)
   refine bodyPost_ret (v:=.tuple #[]) (by simp [results,Tryz.results35,go_sem]) rfl ⟨rfl,?_⟩
   rw [HX.out,if_pos (.inl h1)]
   exact hOut
  have d1:decide (s.fr+n-m<s.fr)=false:=dFf h1
  by_cases h2:s.to≤s.fr+n-m
  ·have d2:decide (s.to≤s.fr+n-m)=true:=dTt h2
   go_wp2_with (at_builtin;go_loud (refine wpList_append_own_at _ rfl _ _ 33 rfl w0.heap.size 29 i0 _ 2 16 Tryz.underlying33 hi0 hz0 hz1 hz2 rfl (by decide) u _ _ rfl (HO4.out.alloc _) ⟨_,0,I⟩ 1 1 (encN s) rfl rfl (Zz5 (by simp) _) (Zzz s) (by simp only [maxLen];omega) (by omega) (by have:=hB4.size;simp at *;omega) ?_);intro v' wz hown' hgr _ _;obtain ⟨hbz,hOut⟩:=HADD.out s _ wz v' (hB4.alloc hB4.size _) hown' hgr;obtain ⟨g',cap',rfl⟩:=ownsRow_succ hown';have oz:=hbz.cell;have of:=hbz.frozen)
   refine bodyPost_ret (v:=.tuple #[]) (by simp [results,Tryz.results35,go_sem]) rfl ⟨rfl,?_⟩
   rw [HX.out,if_pos (.inr h2)]
   exact hOut
  have d2:decide (s.to≤s.fr+n-m)=false:=dFf h2
  have HX:=Hh (HX.out.trans (if_neg (by omega)))
  go_wp2_with fail
  have ba:=Blk.new w4 #[C E s.fr,C E (s.fr+n-m),C E (s.fr+n-m+1),C E s.to] 29
  have hBa:Below w.heap.size w (w4.alloc (J #[C E s.fr,C E (s.fr+n-m),C E (s.fr+n-m+1),C E s.to] 29)):=hB4.alloc hB4.size _
  have hfu:=Zz3m HO4.out
  have hoa:w4.heap.size≠o:=by have:=HBX.out.lt;have:=hB4.size;omega
  have HOa:=Hh (HO4.out.alloc (J #[C E s.fr,C E (s.fr+n-m),C E (s.fr+n-m+1),C E s.to] 29))
  have boa:=HBX.out.kept (Zzd (row:=none) hBa) (by simp)
  have ha4:w4.heap.size<(w4.alloc (J #[C E s.fr,C E (s.fr+n-m),C E (s.fr+n-m+1),C E s.to] 29)).heap.size:=by simp
  have hwa:=hBa.size
  clear o0 ol
  generalize w4.alloc (J #[C E s.fr,C E (s.fr+n-m),C E (s.fr+n-m+1),C E s.to] 29)=wa at *
  generalize w4.heap.size=B4 at *
  try simp only [dq,dl,bne,Bool.not_true,Bool.not_false]
  go_loopw [125] (fun v wr=>∃ j:Nat,v=C E j∧PartRel o w0 L s (s.fr+n-m) B4 wa j wr) (fun v _=>2-(intOf v).toNat)
  case atStart=>exact ⟨0,rfl,Or.inl ⟨rfl,rfl⟩⟩
  case round =>
   obtain ⟨j,rfl,hrel⟩:=hrel
   unfold PartRel at hrel
   rcases hrel with ⟨rfl,rfl⟩|⟨rfl,hP1,bar⟩|⟨rfl,hP2⟩
   ·have a0:=ba.cell 0 (v:=C E s.fr) rfl
    have a1:=ba.cell 1 (v:=C E (s.fr+n-m)) rfl
    have o0:=boa.cell
    have ol:=boa.lt
    by_cases hc:s.fr<s.fr+n-m
    ·have dc:decide (s.fr<s.fr+n-m)=true:=dTt hc
     go_wp2_with (at_builtin;go_loud (refine wpList_append_own_at _ rfl _ _ 33 rfl w0.heap.size 29 i0 _ 2 16 Tryz.underlying33 hi0 hz0 hz1 hz2 rfl (by decide) u _ _ rfl ((HOa.out.alloc _).alloc _) ⟨_,0,I⟩ 1 1 (encN (⟨s.fr,s.fr+n-m⟩:Spn)) rfl rfl (Zz5 (by simp) _) (Zzz (⟨s.fr,s.fr+n-m⟩:Spn)) (by simp only [maxLen];omega) (by omega) (by simp;omega) ?_);intro v' wz hown' hgr _ _;obtain ⟨hbz,hOut⟩:=HADD.out (⟨s.fr,s.fr+n-m⟩:Spn) _ wz v' ((hBa.alloc hwa _).alloc (by simp;omega) _) hown' hgr;have bz:=((ba.alloc _).alloc _).kept hgr (fun e=>by have:=hfu _ e.symm;omega);obtain ⟨g',cap',rfl⟩:=ownsRow_succ hown';have oz:=hbz.cell;have of:=hbz.frozen)
     go_roundw
     case rel=>exact ⟨1,by go_num,Or.inr (Or.inl ⟨rfl,by rw [if_pos hc];exact hOut,bz.other hoa _⟩)⟩
     case measure=>simp [intOf]
    have dc:decide (s.fr<s.fr+n-m)=false:=dFf hc
    go_wp2
    go_roundw
    case rel=>exact ⟨1,by go_num,Or.inr (Or.inl ⟨rfl,by rw [if_neg hc,List.append_nil];exact HP.out.below (hBa.alloc hwa _),ba.alloc _⟩)⟩
    case measure=>simp [intOf]
   ·have a2:=bar.cell 2 (v:=C E (s.fr+n-m+1)) rfl
    have a3:=bar.cell 3 (v:=C E s.to) rfl
    have hl1:(L++(if s.fr<s.fr+n-m then [(⟨s.fr,s.fr+n-m⟩:Spn)] else [])).length≤6001:=by rw [List.length_append];split <;> simp <;> omega
    generalize hM:L++(if s.fr<s.fr+n-m then [(⟨s.fr,s.fr+n-m⟩:Spn)] else [])=M at *
    have HP1:=Hh hP1
    obtain ⟨hg1,ho1,u1,hb1,hown1,_⟩:=hP1
    have o0:=hb1.cell
    have ol:=hb1.lt
    have hNS1:=Zzl hown1
    have HO1:=Hh hown1
    have HADD1:=Hh (fun s wa w1 v' (hA:Below wr.heap.size wr wa) hown' (hgr:wa.grownBy w1 u1.ownBlock)=>OutP.add (s:=s) (v':=v') hg1 ho1 hb1 hown1 hA hown' hgr)
    have hw1:=hg1.size
    by_cases hc:s.fr+n-m+1<s.to
    ·have dc:decide (s.fr+n-m+1<s.to)=true:=dTt hc
     go_wp2_with (at_builtin;go_loud (refine wpList_append_own_at _ rfl _ _ 33 rfl w0.heap.size 29 i0 _ 2 16 Tryz.underlying33 hi0 hz0 hz1 hz2 rfl (by decide) u1 _ _ rfl ((HO1.out.alloc _).alloc _) ⟨_,0,I⟩ 1 1 (encN (⟨s.fr+n-m+1,s.to⟩:Spn)) rfl rfl (Zz5 (by simp) _) (Zzz (⟨s.fr+n-m+1,s.to⟩:Spn)) (by simp only [maxLen];omega) (by omega) (by simp;omega) ?_);intro v' wz hown' hgr _ _;obtain ⟨hbz,hOut⟩:=HADD1.out (⟨s.fr+n-m+1,s.to⟩:Spn) _ wz v' ((bLR.alloc nlR _).alloc (by simp) _) hown' hgr;obtain ⟨g',cap',rfl⟩:=ownsRow_succ hown';have oz:=hbz.cell;have of:=hbz.frozen)
     go_roundw
     case rel=>exact ⟨2,by go_num,Or.inr (Or.inr ⟨rfl,by rw [if_pos hc,←List.append_assoc,hM];exact hOut⟩)⟩
     case measure=>simp [intOf]
    have dc:decide (s.fr+n-m+1<s.to)=false:=dFf hc
    go_wp2
    go_roundw
    case rel=>exact ⟨2,by go_num,Or.inr (Or.inr ⟨rfl,by rw [if_neg hc,List.append_nil,hM];exact HP1.out.below (bLR.alloc nlR _)⟩)⟩
    case measure=>simp [intOf]
   go_wp2
   go_end0
   exact ⟨rfl,by rw [HX.out];exact hP2⟩
 have dl:(i-m == s.to-1-s.fr)=false:=by rw [beq_eq_false_iff_ne];exact hl
 have HX:=Hh (Zz6O (fr:=s.fr) (to:=s.to) hq (show (if i-m=s.to-1-s.fr then s.fr+n-m else s.fr+m-n)=s.fr+m-n from if_neg hl))
 clear hl hq
 by_cases h1:s.fr+m-n<s.fr
 ·have d1:decide (s.fr+m-n<s.fr)=true:=dTt h1
  go_wp2_with (at_builtin;go_loud (refine wpList_append_own_at _ rfl _ _ 33 rfl w0.heap.size 29 i0 _ 2 16 Tryz.underlying33 hi0 hz0 hz1 hz2 rfl (by decide) u _ _ rfl (HO4.out.alloc _) ⟨_,0,I⟩ 1 1 (encN s) rfl rfl (Zz5 (by simp) _) (Zzz s) (by simp only [maxLen];omega) (by omega) (by have:=hB4.size;simp at *;omega) ?_);intro v' wz hown' hgr _ _;obtain ⟨hbz,hOut⟩:=HADD.out s _ wz v' (hB4.alloc hB4.size _) hown' hgr;obtain ⟨g',cap',rfl⟩:=ownsRow_succ hown';have oz:=hbz.cell;have of:=hbz.frozen)
  refine bodyPost_ret (v:=.tuple #[]) (by simp [results,Tryz.results35,go_sem]) rfl ⟨rfl,?_⟩
  rw [HX.out,if_pos (.inl h1)]
  exact hOut
 have d1:decide (s.fr+m-n<s.fr)=false:=dFf h1
 by_cases h2:s.to≤s.fr+m-n
 ·have d2:decide (s.to≤s.fr+m-n)=true:=dTt h2
  go_wp2_with (at_builtin;go_loud (refine wpList_append_own_at _ rfl _ _ 33 rfl w0.heap.size 29 i0 _ 2 16 Tryz.underlying33 hi0 hz0 hz1 hz2 rfl (by decide) u _ _ rfl (HO4.out.alloc _) ⟨_,0,I⟩ 1 1 (encN s) rfl rfl (Zz5 (by simp) _) (Zzz s) (by simp only [maxLen];omega) (by omega) (by have:=hB4.size;simp at *;omega) ?_);intro v' wz hown' hgr _ _;obtain ⟨hbz,hOut⟩:=HADD.out s _ wz v' (hB4.alloc hB4.size _) hown' hgr;obtain ⟨g',cap',rfl⟩:=ownsRow_succ hown';have oz:=hbz.cell;have of:=hbz.frozen)
  refine bodyPost_ret (v:=.tuple #[]) (by simp [results,Tryz.results35,go_sem]) rfl ⟨rfl,?_⟩
  rw [HX.out,if_pos (.inr h2)]
  exact hOut
 have d2:decide (s.to≤s.fr+m-n)=false:=dFf h2
 have HX:=Hh (HX.out.trans (if_neg (by omega)))
 go_wp2_with fail
 have ba:=Blk.new w4 #[C E s.fr,C E (s.fr+m-n),C E (s.fr+m-n+1),C E s.to] 29
 have hBa:Below w.heap.size w (w4.alloc (J #[C E s.fr,C E (s.fr+m-n),C E (s.fr+m-n+1),C E s.to] 29)):=hB4.alloc hB4.size _
 have hfu:=Zz3m HO4.out
 have hoa:w4.heap.size≠o:=by have:=HBX.out.lt;have:=hB4.size;omega
 have HOa:=Hh (HO4.out.alloc (J #[C E s.fr,C E (s.fr+m-n),C E (s.fr+m-n+1),C E s.to] 29))
 have boa:=HBX.out.kept (Zzd (row:=none) hBa) (by simp)
 have ha4:w4.heap.size<(w4.alloc (J #[C E s.fr,C E (s.fr+m-n),C E (s.fr+m-n+1),C E s.to] 29)).heap.size:=by simp
 have hwa:=hBa.size
 clear o0 ol
 generalize w4.alloc (J #[C E s.fr,C E (s.fr+m-n),C E (s.fr+m-n+1),C E s.to] 29)=wa at *
 generalize w4.heap.size=B4 at *
 try simp only [dq,dl,bne,Bool.not_true,Bool.not_false]
 go_loopw [125] (fun v wr=>∃ j:Nat,v=C E j∧PartRel o w0 L s (s.fr+m-n) B4 wa j wr) (fun v _=>2-(intOf v).toNat)
 case atStart=>exact ⟨0,rfl,Or.inl ⟨rfl,rfl⟩⟩
 case round =>
  obtain ⟨j,rfl,hrel⟩:=hrel
  unfold PartRel at hrel
  rcases hrel with ⟨rfl,rfl⟩|⟨rfl,hP1,bar⟩|⟨rfl,hP2⟩
  ·have a0:=ba.cell 0 (v:=C E s.fr) rfl
   have a1:=ba.cell 1 (v:=C E (s.fr+m-n)) rfl
   have o0:=boa.cell
   have ol:=boa.lt
   by_cases hc:s.fr<s.fr+m-n
   ·have dc:decide (s.fr<s.fr+m-n)=true:=dTt hc
    go_wp2_with (at_builtin;go_loud (refine wpList_append_own_at _ rfl _ _ 33 rfl w0.heap.size 29 i0 _ 2 16 Tryz.underlying33 hi0 hz0 hz1 hz2 rfl (by decide) u _ _ rfl ((HOa.out.alloc _).alloc _) ⟨_,0,I⟩ 1 1 (encN (⟨s.fr,s.fr+m-n⟩:Spn)) rfl rfl (Zz5 (by simp) _) (Zzz (⟨s.fr,s.fr+m-n⟩:Spn)) (by simp only [maxLen];omega) (by omega) (by simp;omega) ?_);intro v' wz hown' hgr _ _;obtain ⟨hbz,hOut⟩:=HADD.out (⟨s.fr,s.fr+m-n⟩:Spn) _ wz v' ((hBa.alloc hwa _).alloc (by simp;omega) _) hown' hgr;have bz:=((ba.alloc _).alloc _).kept hgr (fun e=>by have:=hfu _ e.symm;omega);obtain ⟨g',cap',rfl⟩:=ownsRow_succ hown';have oz:=hbz.cell;have of:=hbz.frozen)
    go_roundw
    case rel=>exact ⟨1,by go_num,Or.inr (Or.inl ⟨rfl,by rw [if_pos hc];exact hOut,bz.other hoa _⟩)⟩
    case measure=>simp [intOf]
   have dc:decide (s.fr<s.fr+m-n)=false:=dFf hc
   go_wp2
   go_roundw
   case rel=>exact ⟨1,by go_num,Or.inr (Or.inl ⟨rfl,by rw [if_neg hc,List.append_nil];exact HP.out.below (hBa.alloc hwa _),ba.alloc _⟩)⟩
   case measure=>simp [intOf]
  ·have a2:=bar.cell 2 (v:=C E (s.fr+m-n+1)) rfl
   have a3:=bar.cell 3 (v:=C E s.to) rfl
   have hl1:(L++(if s.fr<s.fr+m-n then [(⟨s.fr,s.fr+m-n⟩:Spn)] else [])).length≤6001:=by rw [List.length_append];split <;> simp <;> omega
   generalize hM:L++(if s.fr<s.fr+m-n then [(⟨s.fr,s.fr+m-n⟩:Spn)] else [])=M at *
   have HP1:=Hh hP1
   obtain ⟨hg1,ho1,u1,hb1,hown1,_⟩:=hP1
   have o0:=hb1.cell
   have ol:=hb1.lt
   have hNS1:=Zzl hown1
   have HO1:=Hh hown1
   have HADD1:=Hh (fun s wa w1 v' (hA:Below wr.heap.size wr wa) hown' (hgr:wa.grownBy w1 u1.ownBlock)=>OutP.add (s:=s) (v':=v') hg1 ho1 hb1 hown1 hA hown' hgr)
   have hw1:=hg1.size
   by_cases hc:s.fr+m-n+1<s.to
   ·have dc:decide (s.fr+m-n+1<s.to)=true:=dTt hc
    go_wp2_with (at_builtin;go_loud (refine wpList_append_own_at _ rfl _ _ 33 rfl w0.heap.size 29 i0 _ 2 16 Tryz.underlying33 hi0 hz0 hz1 hz2 rfl (by decide) u1 _ _ rfl ((HO1.out.alloc _).alloc _) ⟨_,0,I⟩ 1 1 (encN (⟨s.fr+m-n+1,s.to⟩:Spn)) rfl rfl (Zz5 (by simp) _) (Zzz (⟨s.fr+m-n+1,s.to⟩:Spn)) (by simp only [maxLen];omega) (by omega) (by simp;omega) ?_);intro v' wz hown' hgr _ _;obtain ⟨hbz,hOut⟩:=HADD1.out (⟨s.fr+m-n+1,s.to⟩:Spn) _ wz v' ((bLR.alloc nlR _).alloc (by simp) _) hown' hgr;obtain ⟨g',cap',rfl⟩:=ownsRow_succ hown';have oz:=hbz.cell;have of:=hbz.frozen)
    go_roundw
    case rel=>exact ⟨2,by go_num,Or.inr (Or.inr ⟨rfl,by rw [if_pos hc,←List.append_assoc,hM];exact hOut⟩)⟩
    case measure=>simp [intOf]
   have dc:decide (s.fr+m-n+1<s.to)=false:=dFf hc
   go_wp2
   go_roundw
   case rel=>exact ⟨2,by go_num,Or.inr (Or.inr ⟨rfl,by rw [if_neg hc,List.append_nil,hM];exact HP1.out.below (bLR.alloc nlR _)⟩)⟩
   case measure=>simp [intOf]
  go_wp2
  go_end0
  exact ⟨rfl,by rw [HX.out];exact hP2⟩
/- version.cutsOf and its closure put. -/
def lastO:Int→List Trn→Int
 | o,[]=>o
 | _,x :: xs=>lastO x.ty.off xs
theorem Zz2k (x:Trn):∀ (o:Int) (l:List Trn),chainC o (l++[x])=chainC o l++[x.at_+lastO o l,x.at_+x.ty.off]++[-62135596800+x.ty.off,253402300800+x.ty.off]∧lastO o (l++[x])=x.ty.off
 | o,[]=>⟨rfl,rfl⟩
 | o,y :: ys=>by
  obtain ⟨h1,h2⟩:=Zz2k x y.ty.off ys
  refine ⟨?_,h2⟩
  rw [List.cons_append,chainC,h1,chainC]
  simp [lastO]
theorem Zz5K {B:Int}:∀ {o:Int} {l:List Trn},(-B<o∧o<B)→(∀ x∈l,-B<x.ty.off∧x.ty.off<B) → -B<lastO o l∧lastO o l<B
 | _,[],h,_=>h
 | _,y :: ys,_,h=>Zz5K (o:=y.ty.off) (l:=ys) (h y (by simp)) fun x hx=>h x (by simp [hx])
def OutI (o:Nat) (w0:World) (L:List Int) (w:World):Prop :=
 w0.grownBy w (some o)∧o<w0.heap.size∧∃ u,Boxed w o 53 u∧w.ownsRow w0.heap.size 3 1 u L.length (L.map (C E))
theorem OutI.below {o:Nat} {w0 w w':World} {L:List Int} (h:OutI o w0 L w) (hb:Below w.heap.size w w'):OutI o w0 L w':=by
 obtain ⟨h1,h2,u,h3,h4⟩:=h
 exact ⟨h1.trans (Zzd hb),h2,u,h3.kept (Zzd (row:=none) hb) (by simp),Zz8 h4 hb⟩
theorem OutI.old {o B:Nat} {w0 w:World} {L:List Int} (h:OutI o w0 L w) (hB:B≤o):Below B w0 w:=Zz1I h.1 hB (Nat.le_of_lt (Nat.lt_of_le_of_lt hB h.2.1))
theorem OutI.add {o:Nat} {w0 w wa w1:World} {L:List Int} {x y:Int} {u v':Value} (h1:w0.grownBy w (some o)) (ho:o<w0.heap.size) (hbox:Boxed w o 53 u) (hrow:w.ownsRow w0.heap.size 3 1 u L.length (L.map (C E))) (hA:Below w.heap.size w wa)
  (hown:w1.ownsRow w0.heap.size 3 1 v' (L.length+2) (L.map (C E)++[C E x,C E y])) (hgrow:wa.grownBy w1 u.ownBlock):Boxed w1 o 53 u∧OutI o w0 (L++[x,y]) (w1.setCell ⟨o,0,I⟩ v'):=by
 have hne:some o≠u.ownBlock:=hbox.not_row (by decide) hrow
 have hbA:Boxed wa o 53 u:=hbox.kept (Zzd (row:=none) hA) (by simp)
 have hb1:Boxed w1 o 53 u:=hbA.kept hgrow hne
 refine ⟨hb1,((h1.trans (Zzd hA)).andThen hgrow fun j ej=>?_).trans (grownBy_setCell' w1 o v'),ho,v',hb1.set v',?_⟩
 ·rcases hrow.2 with ⟨rfl,_⟩|⟨g,cap,cur,rfl,hg,_⟩
  ·simp [Value.ownBlock] at ej
  obtain rfl:g=j:=by simpa [Value.ownBlock] using ej
  exact .inl hg
 have h2:=hown.kept (grownBy_setCell' w1 o v') (.inr (hb1.not_row (by decide) hown).symm)
 rw [List.length_append,List.map_append]
 exact h2
set_option maxHeartbeats 4000000 in
theorem Zz1G (c:Int) (hc : -93600<c∧c<93600) (o:Nat) (w0 w:World) (L:List Int) (hlen:L.length≤100000) (hP:OutI o w0 L w) :
  Calls Tryz.prog 70 #[C E c,.pointer (some ⟨o,0,I⟩)] w fun e w'=>e=K (.tuple #[])∧OutI o w0 (L++[-62135596800+c,253402300800+c]) w':=by
 have hw0:=hP.1.size
 obtain ⟨hg,ho,u,hbox,hown⟩:=hP
 have HADD:=Hh (fun wa w1 v' (hA:Below w.heap.size w wa) hown' (hgr:wa.grownBy w1 u.ownBlock)=>OutI.add (x:=-62135596800+c) (y:=253402300800+c) (v':=v') hg ho hbox hown hA hown' hgr)
 have HOWN:=Hh hown
 have hNS:=Zzl hown
 have o0:=hbox.cell
 have ol:=hbox.lt
 obtain ⟨i0,hi0,hz0,hz1,hz2⟩:=info_parts infoI
 clear hg ho hown hbox
 go_enter Tryz.func70,Tryz.ntmps70
 go_wp2_with (at_builtin;go_loud (refine wpList_append_own_at _ rfl _ _ 53 rfl w0.heap.size 3 i0 _ 1 8 Tryz.underlying53 hi0 hz0 hz1 hz2 rfl (by decide) u _ _ rfl (HOWN.out.alloc _) ⟨_,0,I⟩ 2 2 [C E (-62135596800+c),C E (253402300800+c)] rfl rfl (Zz5 (by simp) _) (Zz3B _ _) (by simp only [maxLen];omega) (by omega) (by simp;omega) ?_);intro v' wz hown' hgr _ _;obtain ⟨hbz,hOut⟩:=HADD.out _ wz v' (bLR.alloc nlR _) hown' hgr;obtain ⟨g',cap',rfl⟩:=ownsRow_succ hown';have oz:=hbz.cell;have of:=hbz.frozen)
 go_end0
 exact ⟨rfl,hOut⟩
def CutEnd (z:Zn) (a b:Int) (w:World) (e:Ending) (w':World):Prop:=∃ v,e=K (.tuple #[v,C E 0])∧w'.ownsRow w.heap.size 3 1 v (z.cutsF a b).length ((z.cutsF a b).map (C E))∧Below w.heap.size w w'
set_option maxRecDepth 100000 in
set_option maxHeartbeats 1000000 in
theorem Zz4D (z:Zn) (vT vR:Value) (a b:Int) (w:World) (hm:HasMax w) (hT:Rd Trn.cells 4 w vT z.table) (hR:Rd Rule.cells 11 w vR z.tail) (hfs:z.form.size<4294967281) (hll:z.tail.length≤12) (hv:z.valid=true) (h1 : -62135596800≤a) (hab:a<b) (h2:b≤253402300800) (hc:(z.betF (cutA a) (cutB b)).length≤1000) :
  Calls Tryz.prog 34 #[z.v vT vR,.agg #[C E a,C E b]] w (CutEnd z a b w):=by
 have hAB:=cutA_le hab h1 h2
 have hA1 : -62135596800≤cutA a:=by unfold cutA;omega
 have hA2:cutA a<253402300800:=by unfold cutA;omega
 have hB1:cutB b≤253402300800:=by unfold cutB;omega
 have hbv:z.betV (cutA a) (cutB b)=(z.betF (cutA a) (cutB b),0):=betV_of hv ⟨hA1,hAB,hB1⟩ hc
 have HBT:=Hh (fun W (hb:Below w.heap.size w W)=>Zz1E z vT vR (cutA a) (cutB b) W (hm.on hb) (hT.on hb) (hR.on hb) hfs (.inl hll))
 have HAT:=Hh (fun t (ht : -62135596800≤t∧t<253402300800) W (hb:Below w.heap.size w W)=>show Calls Tryz.prog 24 #[z.v vT vR,C E t] W fun e w'=>e=K (atR (z.typF t,0))∧Below W.heap.size W w' from by
  have h:=Zz79 z vT vR t W (hm.on hb) (hT.on hb) (hR.on hb) hfs (.inl hll)
  rwa [show z.atV t=(z.typF t,0) from by unfold Zn.atV inT;rw [if_neg (by simp [hv]),if_neg (by simp;omega)]] at h)
 have hO1:=Zz17 hv (cutA a)
 have hO2:=Zz17 hv (cutA a-1)
 have HBM:=Hh (fun x (hx:x∈z.betF (cutA a) (cutB b))=>T_ty hv x (List.mem_filter.1 hx).1)
 have HBA:=Hh (show ∀ x∈z.betF (cutA a) (cutB b),cutA a≤x.at_∧x.at_<cutB b from fun x hx=>by simpa using (List.mem_filter.1 hx).2)
 have HCF:=Hh (show z.cutsF a b=[-62135596800+(if -62135596800<cutA a then (z.typF (cutA a-1)).off else (z.typF (cutA a)).off),253402300800+(if -62135596800<cutA a then (z.typF (cutA a-1)).off else (z.typF (cutA a)).off),-62135596800+(z.typF (cutA a)).off,253402300800+(z.typF (cutA a)).off]++chainC (if -62135596800<cutA a then (z.typF (cutA a-1)).off else (z.typF (cutA a)).off) (z.betF (cutA a) (cutB b)) from rfl)
 obtain ⟨AT,cT,rfl⟩:=Zzb hT
 obtain ⟨AR,cR,rfl⟩:=Zzb hR
 clear hT hR hm hfs
 unfold BetOwn at HBT
 rw [hbv] at HBT
 dsimp only at HBT
 unfold atR Typ.val at HAT
 dsimp only at HAT
 unfold Zn.offF at hO1 hO2
 unfold CutEnd
 rw [HCF.out]
 obtain ⟨c0,hc0⟩:∃ c0,c0=(if -62135596800<cutA a then (z.typF (cutA a-1)).off else (z.typF (cutA a)).off):=⟨_,rfl⟩
 rw [←hc0]
 have HC0:=Hh hc0
 have hc0b : -93600<c0∧c0<93600:=by
  rw [hc0]
  have:=Zz17 hv (cutA a)
  have:=Zz17 hv (cutA a-1)
  unfold Zn.offF at *
  split <;> assumption
 clear hc0
 have b0:=(Blk.new w #[G z.nm,C E z.first.off,C E z.first.sv,G z.first.nm,H AT z.table.length cT,H AR z.tail.length cR,C E z.off,G z.form,C E z.year] 27).alloc (J #[C E a,C E b] 29)
 have b1:=Blk.new (w.alloc (J #[G z.nm,C E z.first.off,C E z.first.sv,G z.first.nm,H AT z.table.length cT,H AR z.tail.length cR,C E z.off,G z.form,C E z.year] 27)) #[C E a,C E b] 29
 simp only [World.size_alloc] at b1
 have hB2:Below w.heap.size w ((w.alloc (J #[G z.nm,C E z.first.off,C E z.first.sv,G z.first.nm,H AT z.table.length cT,H AR z.tail.length cR,C E z.off,G z.form,C E z.year] 27)).alloc (J #[C E a,C E b] 29)):=(bLR.alloc nlR _).alloc (by simp) _
 unfold Zn.v at HBT HAT ⊢
 have dA:wrap64 (a-187200)=a-187200:=by unfold wrap64;omega
 have dB:wrap64 (b+187200)=b+187200:=by unfold wrap64;omega
 clear hbv HCF
 have HT0:=Hh (fun W hb=>HAT.out (cutA a) ⟨hA1,hA2⟩ W hb)
 have HT1:=Hh (fun (h : -62135596800<cutA a) W hb=>HAT.out (cutA a-1) ⟨by omega,by omega⟩ W hb)
 clear HAT
 generalize hX:z.typF (cutA a)=X at *
 generalize hY:z.typF (cutA a-1)=Y at *
 generalize hL:z.betF (cutA a) (cutB b)=L at *
 clear hX hY hL
 generalize hA:cutA a=A at *
 generalize hB:cutB b=B at *
 have dA2:max (-62135596800) (a-187200)=A:=hA
 have dB2:min 253402300800 (b+187200)=B:=hB
 clear hA hB
 have b1:=b1.alloc (J #[C E A,C E B] 29)
 have b0:=b0.alloc (J #[C E A,C E B] 29)
 have b2:=Blk.new ((w.alloc (J #[G z.nm,C E z.first.off,C E z.first.sv,G z.first.nm,H AT z.table.length cT,H AR z.tail.length cR,C E z.off,G z.form,C E z.year] 27)).alloc (J #[C E a,C E b] 29)) #[C E A,C E B] 29
 simp only [World.size_alloc] at b2
 have hB3:Below w.heap.size w (((w.alloc (J #[G z.nm,C E z.first.off,C E z.first.sv,G z.first.nm,H AT z.table.length cT,H AR z.tail.length cR,C E z.off,G z.form,C E z.year] 27)).alloc (J #[C E a,C E b] 29)).alloc (J #[C E A,C E B] 29)):=hB2.alloc hB2.size _
 go_enter Tryz.func34,Tryz.ntmps34
 go_wp2_with fail
 generalize (((w.alloc (J #[G z.nm,C E z.first.off,C E z.first.sv,G z.first.nm,H AT z.table.length cT,H AR z.tail.length cR,C E z.off,G z.form,C E z.year] 27)).alloc (J #[C E a,C E b] 29)).alloc (J #[C E A,C E B] 29))=W at *
 have hw:w.heap.size≤W.heap.size:=hB3.size
 refine (HBT.out W hB3).mono ?_
 rintro e w5 ⟨v5,rfl,hr5,hb5,hns5⟩
 clear HBT dA dB dA2 dB2
 have hR5:=Zz7 ZzO hr5 rfl
 have hlo5:∀ r,v5.ownBlock=some r→W.heap.size≤r∧r<w5.heap.size:=Zz7B hr5
 obtain ⟨A5,c5,rfl⟩:=Zzb hR5
 have HR5:=Hh hR5
 have HLO:=Hh hlo5
 clear hR5 hlo5 hr5
 have sz5:W.heap.size≤w5.heap.size:=hb5.size
 have bz:=(b0.below hb5 b0.lt).alloc (J #[H none 0 0] 53)
 have bw:=(b2.below hb5 b2.lt).alloc (J #[H none 0 0] 53)
 have bo:=Boxed.new w5 53 (H none 0 0)
 have hb6:Below W.heap.size W (w5.alloc (J #[H none 0 0] 53)):=hb5.alloc hb5.size _
 have h56:Below w5.heap.size w5 (w5.alloc (J #[H none 0 0] 53)):=Zz6 w5 _
 have sz6:(w5.alloc (J #[H none 0 0] 53)).heap.size=w5.heap.size+1:=by simp
 have Lz:=bz.lt
 have z0:=Zz0 bz 0 _ rfl
 have z1:=Zz0 bz 1 _ rfl
 have z2:=Zz0 bz 2 _ rfl
 have z3:=Zz0 bz 3 _ rfl
 have z4:=Zz0 bz 4 _ rfl
 have z5:=Zz0 bz 5 _ rfl
 have z6:=Zz0 bz 6 _ rfl
 have z7:=Zz0 bz 7 _ rfl
 have z8:=Zz0 bz 8 _ rfl
 have Lw:=bw.lt
 have w0c:=Zz0 bw 0 _ rfl
 have w1c:=Zz0 bw 1 _ rfl
 go_wp2_with fail
 generalize w5.alloc (J #[H none 0 0] 53)=w6 at *
 refine (HT0.out w6 (hB3.trans (hb6.mono hw))).mono ?_
 rintro e w7 ⟨rfl,hb7⟩
 clear HT0 Lz z0 z1 z2 z3 z4 z5 z6 z7 z8 Lw w0c w1c
 have hs67:=hb7.size
 have bx:=Blk.new w7 #[C E X.off,C E X.sv,G X.nm] 23
 have bz:=(bz.below hb7 bz.lt).alloc (J #[C E X.off,C E X.sv,G X.nm] 23)
 have bw:=(bw.below hb7 bw.lt).alloc (J #[C E X.off,C E X.sv,G X.nm] 23)
 have h67:Below w6.heap.size w6 (w7.alloc (J #[C E X.off,C E X.sv,G X.nm] 23)):=hb7.alloc hb7.size _
 have x0:=Zz0 bx 0 _ rfl
 have x1:=Zz0 bx 1 _ rfl
 have x2:=Zz0 bx 2 _ rfl
 have Lx:=bx.lt
 have w0c:=Zz0 bw 0 _ rfl
 have w1c:=Zz0 bw 1 _ rfl
 have Lw:=bw.lt
 by_cases hA : -62135596800<A
 ·have e0:c0=Y.off:=by rw [HC0.out];exact if_pos hA
  subst e0
  have dA:decide (-62135596800<A)=true:=dTt hA
  have dA1:wrap64 (A-1)=A-1:=by unfold wrap64;omega
  have HT1:=Hh (fun W hb=>HT1.out hA W hb)
  have Lz:=bz.lt
  have z0:=Zz0 bz 0 _ rfl
  have z1:=Zz0 bz 1 _ rfl
  have z2:=Zz0 bz 2 _ rfl
  have z3:=Zz0 bz 3 _ rfl
  have z4:=Zz0 bz 4 _ rfl
  have z5:=Zz0 bz 5 _ rfl
  have z6:=Zz0 bz 6 _ rfl
  have z7:=Zz0 bz 7 _ rfl
  have z8:=Zz0 bz 8 _ rfl
  go_wp2_with fail
  generalize w7.alloc (J #[C E X.off,C E X.sv,G X.nm] 23)=w8 at *
  refine (HT1.out w8 (hB3.trans ((hb6.trans (h67.mono hb6.size)).mono hw))).mono ?_
  rintro e w9 ⟨rfl,hb9⟩
  clear HT1 Lz z0 z1 z2 z3 z4 z5 z6 z7 z8 Lw w0c w1c x0 x1 x2 Lx
  have by_:=Blk.new w9 #[C E Y.off,C E Y.sv,G Y.nm] 23
  have bx:=(bx.below hb9 bx.lt).alloc (J #[C E Y.off,C E Y.sv,G Y.nm] 23)
  have y0:=Zz0 by_ 0 _ rfl
  have y1:=Zz0 by_ 1 _ rfl
  have y2:=Zz0 by_ 2 _ rfl
  have Ly:=by_.lt
  have x0:=Zz0 bx 0 _ rfl
  have x1:=Zz0 bx 1 _ rfl
  have x2:=Zz0 bx 2 _ rfl
  have Lx:=bx.lt
  have h69:Below w6.heap.size w6 (w9.alloc (J #[C E Y.off,C E Y.sv,G Y.nm] 23)):=(h67.trans (hb9.mono h67.size)).alloc (h67.trans (hb9.mono h67.size)).size _
  go_wp2_with fail
  clear y0 y1 y2 Ly x0 x1 x2 Lx
  have h6x:=h69
  clear h69
  have h59:Below w5.heap.size w5 (w9.alloc (J #[C E Y.off,C E Y.sv,G Y.nm] 23)):=h56.trans (h6x.mono (by omega))
  have hbo:Boxed (w9.alloc (J #[C E Y.off,C E Y.sv,G Y.nm] 23)) w5.heap.size 53 (H none 0 0):=bo.kept (Zzd (row:=none) h6x) (by simp)
  have hWx:=hb6.trans (h6x.mono hb6.size)
  have hxl:=bx.lt
  clear hb5 hb6 h6x h67 bo by_ bw bz b0 b1 b2 hb7
  generalize w9.alloc (J #[C E Y.off,C E Y.sv,G Y.nm] 23)=W9 at *
  have hP0:OutI w5.heap.size W9 [] W9:=⟨⟨rfl,rfl,rfl,Nat.le_refl _,fun _ _ _=>rfl⟩,hbo.lt,_,hbo,World.ownsRow_nil _ _ _ _⟩
  refine (Zz1G Y.off hO2 w5.heap.size W9 W9 [] (by simp) hP0).mono ?_
  rintro e w10 ⟨rfl,hP1⟩
  have bx1:=bx.kept hP1.1 (by intro e;injection e with e;omega)
  have x0:=Zz0 bx1 0 _ rfl
  have x1:=Zz0 bx1 1 _ rfl
  have x2:=Zz0 bx1 2 _ rfl
  have Lx:=bx1.lt
  have HP1:=Hh hP1
  clear hP1 hP0 bx1
  go_wp2_with fail
  refine (Zz1G X.off hO1 w5.heap.size W9 w10 _ (by simp) HP1.out).mono ?_
  rintro e w11 ⟨rfl,hP2⟩
  have HP2:=Hh hP2
  clear hP2 x0 x1 x2 Lx HP1
  go_wp2_with fail
  have hL0:([]++[-62135596800+Y.off,253402300800+Y.off]++[-62135596800+X.off,253402300800+X.off]:List Int)=[-62135596800+Y.off,253402300800+Y.off,-62135596800+X.off,253402300800+X.off]:=rfl
  rw [hL0] at HP2
  clear hL0
  go_loopw [12,69] (fun v12 v69 wr=>∃ j:Nat,j≤L.length∧v69=C E j∧v12=C E (lastO Y.off (L.take j))∧OutI w5.heap.size W9 ([-62135596800+Y.off,253402300800+Y.off,-62135596800+X.off,253402300800+X.off]++chainC Y.off (L.take j)) wr) (fun _ v69 _=>L.length-(intOf v69).toNat)
  case atStart=>exact ⟨0,Nat.zero_le _,rfl,rfl,by simpa [chainC] using HP2.out⟩
  case round =>
   obtain ⟨j,hj,rfl,rfl,hP⟩:=hrel
   by_cases hlt:j<L.length
   ·obtain ⟨g,off,hA5,hg,hcg⟩:∃ g off,A5=some ⟨g,off,I⟩∧g<w5.heap.size∧∀ i u,(Trn.cells L[j]!)[i]? = some u→w5.cell? ⟨g,off+j*4+i,I⟩=some u:=by
     rcases HR5.out with ⟨e,_⟩|⟨g,off,c',hv',hg,hc'⟩
     ·rw [e] at hlt;simp at hlt
     injection hv' with e1 _ _
     exact ⟨g,off,e1,hg,fun i u hu=>hc' j hlt i u hu⟩
    subst hA5
    have hcw:∀ i u,(Trn.cells L[j]!)[i]? = some u→wr.cell? ⟨g,off+j*4+i,I⟩=some u:=fun i u hu=>(World.cell?_of_block (((hP.old (B:=w5.heap.size) nlR).block g hg).trans (h59.block g hg))).trans (hcg i u hu)
    have e0:=hcw 0 _ rfl
    have e1:=hcw 1 _ rfl
    have e2:=hcw 2 _ rfl
    have e3:=hcw 3 _ rfl
    rw [Nat.add_zero] at e0
    have hsW:=hP.1.size
    have hs59:=h59.size
    have hgw:g<wr.heap.size:=by omega
    have hmem:L[j]! ∈ L:=by rw [getElem!_pos L j hlt];exact List.getElem_mem hlt
    have hxb:=HBM.out _ hmem
    have hxa:=HBA.out _ hmem
    have hF:=Zz5K (B:=93600) (o:=Y.off) (l:=L.take j) hO2 (fun x hx=>HBM.out x (List.mem_of_mem_take hx))
    have htk:L.take (j+1)=L.take j++[L[j]!]:=by rw [List.take_succ_eq_append_getElem hlt,getElem!_pos L j hlt]
    have HSN:=Hh (Zz2k L[j]! Y.off (L.take j))
    rw [←htk] at HSN
    have hln:([-62135596800+Y.off,253402300800+Y.off,-62135596800+X.off,253402300800+X.off]++chainC Y.off (L.take j)).length≤5000:=by
     rw [List.length_append,Zz1i,List.length_take]
     simp only [List.length_cons,List.length_nil]
     omega
    have HLP:=Hh hP
    obtain ⟨hg1,ho1,u,hbx,hown⟩:=hP
    have HADD:=Hh (fun wa w1 v' (hA:Below wr.heap.size wr wa) hown' (hgr:wa.grownBy w1 u.ownBlock)=>OutI.add (x:=(L[j]!).at_+lastO Y.off (L.take j)) (y:=(L[j]!).at_+(L[j]!).ty.off) (v':=v') hg1 ho1 hbx hown hA hown' hgr)
    have HOWN:=Hh hown
    have hNS:=Zzl hown
    have hlo:=Zz3m hown
    have o0:=hbx.cell
    have ol:=hbx.lt
    have bt:=(Blk.new wr (Trn.cells L[j]!).toArray 57)
    unfold Trn.cells at bt
    clear hg1 ho1 hbx hown hcg hcw htk hmem
    generalize hF2:lastO Y.off (L.take j)=F at *
    generalize hx2:L[j]! = x at *
    clear hF2 hx2
    obtain ⟨xa,xt⟩:=x
    dsimp only at e0 e1 e2 e3 HSN HADD hxb hxa bt
    obtain ⟨i0,hi0,hz0,hz1,hz2⟩:=info_parts infoI
    go_wp2_with (at_builtin;go_loud (refine wpList_append_own_at _ rfl _ _ 53 rfl W9.heap.size 3 i0 _ 1 8 Tryz.underlying53 hi0 hz0 hz1 hz2 rfl (by decide) u _ _ rfl ((HOWN.out.alloc _).alloc _) ⟨_,0,I⟩ 2 2 [C E (xa+F),C E (xa+xt.off)] rfl rfl (Zz5 (by simp) _) (Zz3B _ _) (by simp only [maxLen];omega) (by omega) (by simp;omega) ?_);intro v' wz hown' hgr _ _;obtain ⟨hbz,hOut⟩:=HADD.out _ wz v' ((bLR.alloc nlR _).alloc (by simp) _) hown' hgr;have bt2:=((bt.alloc _).kept hgr (fun e=>by have:=hlo _ e.symm;omega));have Lt:=bt2.lt;have t1:=Zz0 bt2 1 _ rfl;have t2:=Zz0 bt2 2 _ rfl;have t3:=Zz0 bt2 3 _ rfl;obtain ⟨g',cap',rfl⟩:=ownsRow_succ hown';have oz:=hbz.cell;have of:=hbz.frozen)
    refine (Zz1G xt.off hxb w5.heap.size W9 _ _ (by rw [List.length_append];simp only [List.length_cons,List.length_nil];omega) hOut).mono ?_
    rintro e wn ⟨rfl,hPn⟩
    go_wp2
    go_roundw
    case rel =>
     refine ⟨j+1,by omega,by go_num,by rw [HSN.out.2],?_⟩
     rw [HSN.out.1,←List.append_assoc,←List.append_assoc]
     exact hPn
    case measure=>simp [intOf];omega
   have hj':j=L.length:=by omega
   subst hj'
   rw [List.take_length] at hP
   obtain ⟨hg1,ho1,u,hbx,hown⟩:=hP
   have o0:=hbx.cell
   have ol:=hbx.lt
   have hbE:Below W.heap.size W wr:=hWx.trans ((Zz1I hg1 nlR (by omega)).mono (by omega))
   go_wp2
   go_ret2
   exact ⟨u,rfl,Zz1l hown (by omega),hB3.trans (hbE.mono hw)⟩
 have e0:c0=X.off:=by rw [HC0.out];exact if_neg hA
 subst e0
 have dA:decide (-62135596800<A)=false:=dFf hA
 go_wp2_with fail
 have by_:=bx
 have h6x:=h67
 clear x0 x1 x2 Lx Lw w0c w1c HT1
 have h59:Below w5.heap.size w5 (w7.alloc (J #[C E X.off,C E X.sv,G X.nm] 23)):=h56.trans (h6x.mono (by omega))
 have hbo:Boxed (w7.alloc (J #[C E X.off,C E X.sv,G X.nm] 23)) w5.heap.size 53 (H none 0 0):=bo.kept (Zzd (row:=none) h6x) (by simp)
 have hWx:=hb6.trans (h6x.mono hb6.size)
 have hxl:=bx.lt
 clear hb5 hb6 h6x h67 bo by_ bw bz b0 b1 b2 hb7
 generalize w7.alloc (J #[C E X.off,C E X.sv,G X.nm] 23)=W9 at *
 have hP0:OutI w5.heap.size W9 [] W9:=⟨⟨rfl,rfl,rfl,Nat.le_refl _,fun _ _ _=>rfl⟩,hbo.lt,_,hbo,World.ownsRow_nil _ _ _ _⟩
 refine (Zz1G X.off hO1 w5.heap.size W9 W9 [] (by simp) hP0).mono ?_
 rintro e w10 ⟨rfl,hP1⟩
 have bx1:=bx.kept hP1.1 (by intro e;injection e with e;omega)
 have x0:=Zz0 bx1 0 _ rfl
 have x1:=Zz0 bx1 1 _ rfl
 have x2:=Zz0 bx1 2 _ rfl
 have Lx:=bx1.lt
 have HP1:=Hh hP1
 clear hP1 hP0 bx1
 go_wp2_with fail
 refine (Zz1G X.off hO1 w5.heap.size W9 w10 _ (by simp) HP1.out).mono ?_
 rintro e w11 ⟨rfl,hP2⟩
 have HP2:=Hh hP2
 clear hP2 x0 x1 x2 Lx HP1
 go_wp2_with fail
 have hL0:([]++[-62135596800+X.off,253402300800+X.off]++[-62135596800+X.off,253402300800+X.off]:List Int)=[-62135596800+X.off,253402300800+X.off,-62135596800+X.off,253402300800+X.off]:=rfl
 rw [hL0] at HP2
 clear hL0
 go_loopw [12,69] (fun v12 v69 wr=>∃ j:Nat,j≤L.length∧v69=C E j∧v12=C E (lastO X.off (L.take j))∧OutI w5.heap.size W9 ([-62135596800+X.off,253402300800+X.off,-62135596800+X.off,253402300800+X.off]++chainC X.off (L.take j)) wr) (fun _ v69 _=>L.length-(intOf v69).toNat)
 case atStart=>exact ⟨0,Nat.zero_le _,rfl,rfl,by simpa [chainC] using HP2.out⟩
 case round =>
  obtain ⟨j,hj,rfl,rfl,hP⟩:=hrel
  by_cases hlt:j<L.length
  ·obtain ⟨g,off,hA5,hg,hcg⟩:∃ g off,A5=some ⟨g,off,I⟩∧g<w5.heap.size∧∀ i u,(Trn.cells L[j]!)[i]? = some u→w5.cell? ⟨g,off+j*4+i,I⟩=some u:=by
    rcases HR5.out with ⟨e,_⟩|⟨g,off,c',hv',hg,hc'⟩
    ·rw [e] at hlt;simp at hlt
    injection hv' with e1 _ _
    exact ⟨g,off,e1,hg,fun i u hu=>hc' j hlt i u hu⟩
   subst hA5
   have hcw:∀ i u,(Trn.cells L[j]!)[i]? = some u→wr.cell? ⟨g,off+j*4+i,I⟩=some u:=fun i u hu=>(World.cell?_of_block (((hP.old (B:=w5.heap.size) nlR).block g hg).trans (h59.block g hg))).trans (hcg i u hu)
   have e0:=hcw 0 _ rfl
   have e1:=hcw 1 _ rfl
   have e2:=hcw 2 _ rfl
   have e3:=hcw 3 _ rfl
   rw [Nat.add_zero] at e0
   have hsW:=hP.1.size
   have hs59:=h59.size
   have hgw:g<wr.heap.size:=by omega
   have hmem:L[j]! ∈ L:=by rw [getElem!_pos L j hlt];exact List.getElem_mem hlt
   have hxb:=HBM.out _ hmem
   have hxa:=HBA.out _ hmem
   have hF:=Zz5K (B:=93600) (o:=X.off) (l:=L.take j) hO1 (fun x hx=>HBM.out x (List.mem_of_mem_take hx))
   have htk:L.take (j+1)=L.take j++[L[j]!]:=by rw [List.take_succ_eq_append_getElem hlt,getElem!_pos L j hlt]
   have HSN:=Hh (Zz2k L[j]! X.off (L.take j))
   rw [←htk] at HSN
   have hln:([-62135596800+X.off,253402300800+X.off,-62135596800+X.off,253402300800+X.off]++chainC X.off (L.take j)).length≤5000:=by
    rw [List.length_append,Zz1i,List.length_take]
    simp only [List.length_cons,List.length_nil]
    omega
   have HLP:=Hh hP
   obtain ⟨hg1,ho1,u,hbx,hown⟩:=hP
   have HADD:=Hh (fun wa w1 v' (hA:Below wr.heap.size wr wa) hown' (hgr:wa.grownBy w1 u.ownBlock)=>OutI.add (x:=(L[j]!).at_+lastO X.off (L.take j)) (y:=(L[j]!).at_+(L[j]!).ty.off) (v':=v') hg1 ho1 hbx hown hA hown' hgr)
   have HOWN:=Hh hown
   have hNS:=Zzl hown
   have hlo:=Zz3m hown
   have o0:=hbx.cell
   have ol:=hbx.lt
   have bt:=(Blk.new wr (Trn.cells L[j]!).toArray 57)
   unfold Trn.cells at bt
   clear hg1 ho1 hbx hown hcg hcw htk hmem
   generalize hF2:lastO X.off (L.take j)=F at *
   generalize hx2:L[j]! = x at *
   clear hF2 hx2
   obtain ⟨xa,xt⟩:=x
   dsimp only at e0 e1 e2 e3 HSN HADD hxb hxa bt
   obtain ⟨i0,hi0,hz0,hz1,hz2⟩:=info_parts infoI
   go_wp2_with (at_builtin;go_loud (refine wpList_append_own_at _ rfl _ _ 53 rfl W9.heap.size 3 i0 _ 1 8 Tryz.underlying53 hi0 hz0 hz1 hz2 rfl (by decide) u _ _ rfl ((HOWN.out.alloc _).alloc _) ⟨_,0,I⟩ 2 2 [C E (xa+F),C E (xa+xt.off)] rfl rfl (Zz5 (by simp) _) (Zz3B _ _) (by simp only [maxLen];omega) (by omega) (by simp;omega) ?_);intro v' wz hown' hgr _ _;obtain ⟨hbz,hOut⟩:=HADD.out _ wz v' ((bLR.alloc nlR _).alloc (by simp) _) hown' hgr;have bt2:=((bt.alloc _).kept hgr (fun e=>by have:=hlo _ e.symm;omega));have Lt:=bt2.lt;have t1:=Zz0 bt2 1 _ rfl;have t2:=Zz0 bt2 2 _ rfl;have t3:=Zz0 bt2 3 _ rfl;obtain ⟨g',cap',rfl⟩:=ownsRow_succ hown';have oz:=hbz.cell;have of:=hbz.frozen)
   refine (Zz1G xt.off hxb w5.heap.size W9 _ _ (by rw [List.length_append];simp only [List.length_cons,List.length_nil];omega) hOut).mono ?_
   rintro e wn ⟨rfl,hPn⟩
   go_wp2
   go_roundw
   case rel =>
    refine ⟨j+1,by omega,by go_num,by rw [HSN.out.2],?_⟩
    rw [HSN.out.1,←List.append_assoc,←List.append_assoc]
    exact hPn
   case measure=>simp [intOf];omega
  have hj':j=L.length:=by omega
  subst hj'
  rw [List.take_length] at hP
  obtain ⟨hg1,ho1,u,hbx,hown⟩:=hP
  have o0:=hbx.cell
  have ol:=hbx.lt
  have hbE:Below W.heap.size W wr:=hWx.trans ((Zz1I hg1 nlR (by omega)).mono (by omega))
  go_wp2
  go_ret2
  exact ⟨u,rfl,Zz1l hown (by omega),hB3.trans (hbE.mono hw)⟩
/- version.Locals. Printed by gen_verl.py. -/
def LocEnd (z q:Zn) (a b g f:Int) (w:World) (e:Ending) (w':World):Prop:=Below w.heap.size w w' ∧
 (((z.valid=false∨q.valid=false∨polB g f=false∨spanV a b=false)∧e=K (.tuple #[H none 0 0,C E 1])) ∨
  (z.valid=true∧q.valid=true∧polB g f=true∧spanV a b=true∧∃ out u,Canon out∧(∀ t,hasL out t↔(a≤t∧t<b)∧z.resV t g f≠q.resV t g f)∧out.length≤4000∧e=K (.tuple #[u,C E 0])∧w'.ownsRow w.heap.size 29 2 u out.length (out.flatMap encN)))
def LocGen (N:Nat) (z q:Zn) (a b g f:Int) (w:World) (e:Ending) (w':World):Prop:=Below w.heap.size w w' ∧
 (((z.valid=false∨q.valid=false∨polB g f=false∨spanV a b=false)∧e=K (.tuple #[H none 0 0,C E 1])) ∨
  (z.valid=true∧q.valid=true∧polB g f=true∧spanV a b=true∧∃ out,Canon out∧(∀ t,hasL out t↔(a≤t∧t<b)∧z.resV t g f≠q.resV t g f)∧out.length≤2*(8*N+10) ∧
   ((out.length≤2000∧∃ u,e=K (.tuple #[u,C E 0])∧w'.ownsRow w.heap.size 29 2 u out.length (out.flatMap encN))∨(2000<out.length∧e=K (.tuple #[H none 0 0,C E 5])))))
def encX1 (x:Int):List Value:=[C E x]
theorem encX1_len (x:Int):(encX1 x).length=1:=rfl
theorem Zz4G:∀ l:List Int,l.flatMap encX1=l.map (C E)
 | []=>rfl
 | x :: l=>by rw [List.flatMap_cons,Zz4G l];rfl
theorem rd_news {l:List Int} {w:World} {b off c:Nat} (h:Rd encX1 1 w (H (some ⟨b,off,I⟩) l.length c) l):∀ j u,(l.map (C E))[j]? = some u→w.cell? ((⟨b,off,I⟩:Addr).add j)=some u:=by
 intro j u hu
 obtain ⟨hlt,he⟩:=List.getElem?_eq_some_iff.1 hu
 rw [List.length_map] at hlt
 rw [List.getElem_map] at he
 subst he
 rcases h with ⟨rfl,_⟩|⟨b',off',c',hv,_,hc⟩
 ·simp at hlt
 injection hv with h1 _ _
 injection h1 with h1
 injection h1 with h1 h2 _
 subst h1 h2
 have:=hc j hlt 0 (C E l[j]) (by rw [getElem!_pos l j hlt];rfl)
 rw [Zz4x]
 rwa [Nat.add_zero,Nat.mul_one] at this
theorem map_oneT (l:List Int):∀ u∈l.map (C E),u.oneCell'=true:=fun u hu=>by
 obtain ⟨x,_,rfl⟩:=List.mem_map.1 hu
 rfl
set_option maxRecDepth 100000 in
set_option maxHeartbeats 8000000 in
theorem Locals_gen (N:Nat) (hN:N≤360) (z q:Zn) (vTz vRz vTq vRq:Value) (a b g f:Int) (w:World) (hm:HasMax w)
  (hTz:Rd Trn.cells 4 w vTz z.table) (hRz:Rd Rule.cells 11 w vRz z.tail) (hTq:Rd Trn.cells 4 w vTq q.table) (hRq:Rd Rule.cells 11 w vRq q.tail) (hfz:z.form.size<4294967281) (hfq:q.form.size<4294967281) (hlz:z.tail.length≤12) (hlq:q.tail.length≤12) (htz:z.table.length≤300) (htq:q.table.length≤300)
  (hcz:z.valid=true→spanV a b=true→(z.betF (cutA a) (cutB b)).length≤N) (hcq:q.valid=true→spanV a b=true→(q.betF (cutA a) (cutB b)).length≤N) :
  Calls Tryz.prog 13 #[z.v vTz vRz,q.v vTq vRq,.agg #[C E a,C E b],.agg #[C E g,C E f]] w (LocGen N z q a b g f w):=by
 have HV:=Hh (fun W (hb:Below w.heap.size w W)=>ZzE z vTz vRz W (hm.on hb) (hTz.on hb) (hRz.on hb) hfz (.inl hlz))
 have HVq:=Hh (fun W (hb:Below w.heap.size w W)=>ZzE q vTq vRq W (hm.on hb) (hTq.on hb) (hRq.on hb) hfq (.inl hlq))
 have HS:=Hh (fun W=>Zz76 a b W)
 have HPO:=Hh (fun W=>Zz3d g f W)
 have HCz:=Hh (fun hv h1 h2 h3 hc W (hb:Below w.heap.size w W)=>Zz4D z vTz vRz a b W (hm.on hb) (hTz.on hb) (hRz.on hb) hfz hlz hv h1 h2 h3 hc)
 have HCq:=Hh (fun hv h1 h2 h3 hc W (hb:Below w.heap.size w W)=>Zz4D q vTq vRq a b W (hm.on hb) (hTq.on hb) (hRq.on hb) hfq hlq hv h1 h2 h3 hc)
 have HI:=Hh (fun pa pp pb o w0 W L s hs hbe hBo ha hb hp hao hbo hpo hlen hP=>loc1_any z q vTz vRz vTq vRq g f pa pp pb o w w0 W L s hs hm hTz hRz hTq hRq hfz hfq hlz hlq htz htq hbe hBo ha hb hp hao hbo hpo hlen hP)
 obtain ⟨AT,cT,rfl⟩:=Zzb hTz
 obtain ⟨AR,cR,rfl⟩:=Zzb hRz
 obtain ⟨AU,cU,rfl⟩:=Zzb hTq
 obtain ⟨AS,cS,rfl⟩:=Zzb hRq
 clear hTz hRz hTq hRq hm hfz hfq
 unfold LocGen
 have b0:=(((Blk.new w #[G z.nm,C E z.first.off,C E z.first.sv,G z.first.nm,H AT z.table.length cT,H AR z.tail.length cR,C E z.off,G z.form,C E z.year] 27).alloc (J #[G q.nm,C E q.first.off,C E q.first.sv,G q.first.nm,H AU q.table.length cU,H AS q.tail.length cS,C E q.off,G q.form,C E q.year] 27)).alloc (J #[C E a,C E b] 29)).alloc (J #[C E g,C E f] 44)
 have b1:=((Blk.new (w.alloc (J #[G z.nm,C E z.first.off,C E z.first.sv,G z.first.nm,H AT z.table.length cT,H AR z.tail.length cR,C E z.off,G z.form,C E z.year] 27)) #[G q.nm,C E q.first.off,C E q.first.sv,G q.first.nm,H AU q.table.length cU,H AS q.tail.length cS,C E q.off,G q.form,C E q.year] 27).alloc (J #[C E a,C E b] 29)).alloc (J #[C E g,C E f] 44)
 have b2:=(Blk.new ((w.alloc (J #[G z.nm,C E z.first.off,C E z.first.sv,G z.first.nm,H AT z.table.length cT,H AR z.tail.length cR,C E z.off,G z.form,C E z.year] 27)).alloc (J #[G q.nm,C E q.first.off,C E q.first.sv,G q.first.nm,H AU q.table.length cU,H AS q.tail.length cS,C E q.off,G q.form,C E q.year] 27)) #[C E a,C E b] 29).alloc (J #[C E g,C E f] 44)
 have b3:=Blk.new (((w.alloc (J #[G z.nm,C E z.first.off,C E z.first.sv,G z.first.nm,H AT z.table.length cT,H AR z.tail.length cR,C E z.off,G z.form,C E z.year] 27)).alloc (J #[G q.nm,C E q.first.off,C E q.first.sv,G q.first.nm,H AU q.table.length cU,H AS q.tail.length cS,C E q.off,G q.form,C E q.year] 27)).alloc (J #[C E a,C E b] 29)) #[C E g,C E f] 44
 simp only [World.size_alloc] at b1 b2 b3
 have hB4:Below w.heap.size w ((((w.alloc (J #[G z.nm,C E z.first.off,C E z.first.sv,G z.first.nm,H AT z.table.length cT,H AR z.tail.length cR,C E z.off,G z.form,C E z.year] 27)).alloc (J #[G q.nm,C E q.first.off,C E q.first.sv,G q.first.nm,H AU q.table.length cU,H AS q.tail.length cS,C E q.off,G q.form,C E q.year] 27)).alloc (J #[C E a,C E b] 29)).alloc (J #[C E g,C E f] 44)):=(((bLR.alloc nlR _).alloc (by simp) _).alloc (by simp;omega) _).alloc (by simp;omega) _
 unfold Zn.v at HV HVq HCz HCq ⊢
 unfold Zn.cellsZ at HI
 go_enter Tryz.func13,Tryz.ntmps13
 go_wp2_with fail
 generalize ((((w.alloc (J #[G z.nm,C E z.first.off,C E z.first.sv,G z.first.nm,H AT z.table.length cT,H AR z.tail.length cR,C E z.off,G z.form,C E z.year] 27)).alloc (J #[G q.nm,C E q.first.off,C E q.first.sv,G q.first.nm,H AU q.table.length cU,H AS q.tail.length cS,C E q.off,G q.form,C E q.year] 27)).alloc (J #[C E a,C E b] 29)).alloc (J #[C E g,C E f] 44))=W at *
 have hw:w.heap.size≤W.heap.size:=hB4.size
 by_cases hvz:z.valid=true
 case neg =>
  have hv0:z.valid=false:=by simpa using hvz
  refine (HV.out W hB4).mono ?_
  rintro e w1 ⟨rfl,hb1⟩
  skip
  rw [hv0]
  go_wp2
  go_ret2
  exact ⟨hB4.trans (hb1.mono hw),.inl ⟨.inl hv0,rfl⟩⟩
 refine (HV.out W hB4).mono ?_
 rintro e w1 ⟨rfl,hb1⟩
 skip
 rw [hvz]
 clear HV
 have Kq:=b1.below hb1 b1.lt
 have Lq:=Kq.lt
 have q0:=Zz0 Kq 0 _ rfl
 have q1:=Zz0 Kq 1 _ rfl
 have q2:=Zz0 Kq 2 _ rfl
 have q3:=Zz0 Kq 3 _ rfl
 have q4:=Zz0 Kq 4 _ rfl
 have q5:=Zz0 Kq 5 _ rfl
 have q6:=Zz0 Kq 6 _ rfl
 have q7:=Zz0 Kq 7 _ rfl
 have q8:=Zz0 Kq 8 _ rfl
 go_wp2_with fail
 by_cases hvq:q.valid=true
 case neg =>
  have hv0:q.valid=false:=by simpa using hvq
  refine (HVq.out w1 (hB4.trans (hb1.mono hw))).mono ?_
  rintro e w2 ⟨rfl,hb2⟩
  have hb2:=hb1.trans (hb2.mono hb1.size)
  rw [hv0]
  go_wp2
  go_ret2
  exact ⟨hB4.trans (hb2.mono hw),.inl ⟨.inr (.inl hv0),rfl⟩⟩
 refine (HVq.out w1 (hB4.trans (hb1.mono hw))).mono ?_
 rintro e w2 ⟨rfl,hb2⟩
 have hb2:=hb1.trans (hb2.mono hb1.size)
 rw [hvq]
 clear HVq
 clear Kq Lq q0 q1 q2 q3 q4 q5 q6 q7 q8
 have Kp:=b3.below hb2 b3.lt
 have Lp:=Kp.lt
 have p0:=Zz0 Kp 0 _ rfl
 have p1:=Zz0 Kp 1 _ rfl
 go_wp2_with fail
 by_cases hpo:polB g f=true
 case neg =>
  have hv0:polB g f=false:=by simpa using hpo
  refine (HPO.out w2).mono ?_
  rintro e w3 ⟨rfl,hb3⟩
  have hb3:=hb2.trans (hb3.mono hb2.size)
  rw [hv0]
  go_wp2
  go_ret2
  exact ⟨hB4.trans (hb3.mono hw),.inl ⟨.inr (.inr (.inl hv0)),rfl⟩⟩
 refine (HPO.out w2).mono ?_
 rintro e w3 ⟨rfl,hb3⟩
 have hb3:=hb2.trans (hb3.mono hb2.size)
 rw [hpo]
 clear HPO
 clear Kp Lp p0 p1
 have Ki:=b2.below hb3 b2.lt
 have Li:=Ki.lt
 have i0:=Zz0 Ki 0 _ rfl
 have i1:=Zz0 Ki 1 _ rfl
 go_wp2_with fail
 by_cases hsp:spanV a b=true
 case neg =>
  have hv0:spanV a b=false:=by simpa using hsp
  refine (HS.out w3).mono ?_
  rintro e w4 ⟨rfl,hb4⟩
  have hb4:=hb3.trans (hb4.mono hb3.size)
  rw [hv0]
  go_wp2
  go_ret2
  exact ⟨hB4.trans (hb4.mono hw),.inl ⟨.inr (.inr (.inr hv0)),rfl⟩⟩
 refine (HS.out w3).mono ?_
 rintro e w4 ⟨rfl,hb4⟩
 have hb4:=hb3.trans (hb4.mono hb3.size)
 rw [hsp]
 clear HS
 clear Ki Li i0 i1
 have Kz:=b0.below hb4 b0.lt
 have Lz:=Kz.lt
 have z0:=Zz0 Kz 0 _ rfl
 have z1:=Zz0 Kz 1 _ rfl
 have z2:=Zz0 Kz 2 _ rfl
 have z3:=Zz0 Kz 3 _ rfl
 have z4:=Zz0 Kz 4 _ rfl
 have z5:=Zz0 Kz 5 _ rfl
 have z6:=Zz0 Kz 6 _ rfl
 have z7:=Zz0 Kz 7 _ rfl
 have z8:=Zz0 Kz 8 _ rfl
 have Ki:=b2.below hb4 b2.lt
 have Li:=Ki.lt
 have i0:=Zz0 Ki 0 _ rfl
 have i1:=Zz0 Ki 1 _ rfl
 have hsp2 : -62135596800≤a∧a<b∧b≤253402300800:=by
  unfold spanV at hsp
  simp at hsp
  omega
 have hcz2:=hcz hvz hsp
 have hcq2:=hcq hvq hsp
 have HCz:=Hh (HCz.out hvz hsp2.1 hsp2.2.1 hsp2.2.2 (nLt hcz2 (by omega)))
 have HCq:=Hh (HCq.out hvq hsp2.1 hsp2.2.1 hsp2.2.2 (nLt hcq2 (by omega)))
 have HLH:=Hh (fun l hA hb h1 h2 t=>loc_has hvz hvq hsp2.1 hsp2.2.1 hsp2.2.2 (l:=l) hA hb h1 h2 g f t)
 have hlz2:0<(z.cutsF a b).length∧(z.cutsF a b).length≤4*N+4:=by rw [Zz7a];omega
 have hlq2:0<(q.cutsF a b).length∧(q.cutsF a b).length≤4*N+4:=by rw [Zz7a];omega
 unfold CutEnd at HCz HCq
 go_wp2_with fail
 refine (HCz.out w4 (hB4.trans (hb4.mono hw))).mono ?_
 rintro e w5 ⟨v5,rfl,hr5,hb5⟩
 have s45:=hb5.size
 have hb5:=hb4.trans (hb5.mono hb4.size)
 clear HCz
 clear Kz Lz z0 z1 z2 z3 z4 z5 z6 z7 z8 Ki Li i0 i1
 have Kq:=b1.below hb5 b1.lt
 have Lq:=Kq.lt
 have q0:=Zz0 Kq 0 _ rfl
 have q1:=Zz0 Kq 1 _ rfl
 have q2:=Zz0 Kq 2 _ rfl
 have q3:=Zz0 Kq 3 _ rfl
 have q4:=Zz0 Kq 4 _ rfl
 have q5:=Zz0 Kq 5 _ rfl
 have q6:=Zz0 Kq 6 _ rfl
 have q7:=Zz0 Kq 7 _ rfl
 have q8:=Zz0 Kq 8 _ rfl
 have Ki:=b2.below hb5 b2.lt
 have Li:=Ki.lt
 have i0:=Zz0 Ki 0 _ rfl
 have i1:=Zz0 Ki 1 _ rfl
 have HR5:=Hh hr5
 clear hr5
 go_wp2_with fail
 refine (HCq.out w5 (hB4.trans (hb5.mono hw))).mono ?_
 rintro e w6 ⟨v6,rfl,hr6,hb6⟩
 have s56:=hb6.size
 have HO5:=Hh (Zz8 HR5.out hb6)
 have hn5:=Zzl HO5.out
 have hn6:=Zzl hr6
 have hlo6:=Zz7B hr6
 have hlt5:=Zz3m HR5.out
 have hr6':=hr6
 rw [←Zz4G] at hr6'
 have HR6:=Hh (Zz7 encX1_len hr6' rfl)
 clear hr6'
 have hb6:=hb5.trans (hb6.mono hb5.size)
 clear HCq hr6
 clear Kq Lq q0 q1 q2 q3 q4 q5 q6 q7 q8 Ki Li i0 i1
 have hcl:=hcz2
 generalize hCz:z.cutsF a b=Cz at *
 generalize hCq:q.cutsF a b=Cq at *
 have kz:=(b0.below hb6 b0.lt).alloc (J #[H none 0 0] 33)
 have kq:=(b1.below hb6 b1.lt).alloc (J #[H none 0 0] 33)
 have ki:=(b2.below hb6 b2.lt).alloc (J #[H none 0 0] 33)
 have kp:=(b3.below hb6 b3.lt).alloc (J #[H none 0 0] 33)
 have li:=ki.lt
 have i0:=Zz0 ki 0 _ rfl
 have i1:=Zz0 ki 1 _ rfl
 have bo:=Boxed.new w6 33 (H none 0 0)
 have hbO:Below W.heap.size W (w6.alloc (J #[H none 0 0] 33)):=hb6.alloc hb6.size _
 have hs5:=hb4.size
 have hs6:=hb6.size
 have hs45:=hb5.size
 have hdr0:Below (w6.alloc (J #[H none 0 0] 33)).heap.size (w6.alloc (J #[H none 0 0] 33)) (w6.alloc (J #[H none 0 0] 33)).drew:=Zz1 bLR 1
 have hdr:Below W.heap.size W (w6.alloc (J #[H none 0 0] 33)).drew:=Zz1 hbO 1
 have HO7:=Hh (Zz8 (Zz8 HO5.out (Zz6 w6 (J #[H none 0 0] 33))) hdr0)
 have hcL:0<Cq.length:=by omega
 obtain ⟨g6,o6,c6,rfl⟩:∃ g6 o6 c6,v6=H (some ⟨g6,o6,I⟩) Cq.length c6:=by
  rcases HR6.out with ⟨e,_⟩|⟨g6,o6,c6,hv,_⟩
  ·rw [e] at hcL;simp at hcL
  exact ⟨g6,o6,c6,hv⟩
 have HNW:=Hh (rd_news ((HR6.out.on (Zz6 w6 (J #[H none 0 0] 33))).on hdr0))
 have bo:=bo.kept (Zzd (row:=none) hdr0) (by simp)
 have kz:=kz.below hdr0 kz.lt
 have kq:=kq.below hdr0 kq.lt
 have kp:=kp.below hdr0 kp.lt
 have hsz6:(w6.alloc (J #[H none 0 0] 33)).drew.heap.size=w6.heap.size+1:=by simp
 have HS:=Hh (fun w' (hb:Below W.heap.size W w')=>And.intro hb (And.intro ((b2.below hb b2.lt).cell 0 (v:=C E a) rfl) ((b2.below hb b2.lt).cell 1 (v:=C E b) rfl)))
 have hWb:=b3.lt
 obtain ⟨i0',hi0,hz0,hz1,hz2⟩:=info_parts infoI
 have hlen:(Cz++Cq).length≤2990:=by rw [List.length_append];omega
 have hzl2:Cz.length≤2990:=by rw [List.length_append] at hlen;omega
 have hql2:Cq.length≤2990:=by rw [List.length_append] at hlen;omega
 clear HO5 HR6
 have hlo5:=Zz7B HR5.out
 have HBE:=Hh (fun w' (hb:Below W.heap.size W w')=>hB4.trans (hb.mono hw))
 go_wp2_with fail
 generalize hwo:w6.alloc (J #[H none 0 0] 33)=wo at *
 clear hwo i0 i1 li ki
 have HPC:=Hh (show ∀ gg cap w8,w8.ownsRow w4.heap.size 3 1 (H (some ⟨gg,0,I⟩) (Cz.length+Cq.length) cap) (Cz.length+Cq.length) (Cz.map (C E)++Cq.map (C E))→wo.drew.grownBy w8 v5.ownBlock→(v5.ownBlock=some gg∨gg=wo.drew.heap.size)→Below W.heap.size W w8 →
   Calls Tryz.prog 22 #[.agg #[C E a,C E b],H (some ⟨gg,0,I⟩) (Cz.length+Cq.length) cap,.func (.func 35) #[] #[.pointer (some ⟨w.heap.size,0,I⟩),.pointer (some ⟨w.heap.size+1+1+1,0,I⟩),.pointer (some ⟨w.heap.size+1,0,I⟩),.pointer (some ⟨w6.heap.size,0,I⟩)]] w8 fun e w9=>e=K (.tuple #[])∧Below W.heap.size W w9∧∃ w0,w.heap.size≤w0.heap.size∧OutP w6.heap.size w0 ((piecesC b a ((Cz++Cq++[a,b]).mergeSort fun x y=>decide (x≤y))).flatMap (partF (fun y=>z.resV y g f) (fun y=>q.resV y g f))) w9 from by
  intro gg cap w8 hown hg hat hb8
  have hown':w8.ownsRow w4.heap.size 3 1 (H (some ⟨gg,0,I⟩) (Cz.length+Cq.length) cap) (Cz++Cq).length ((Cz++Cq).map (C E)):=by rw [List.length_append,List.map_append];exact hown
  have hgg:w4.heap.size≤gg∧gg≠w6.heap.size:=by
   rcases hat with h|h
   ·have:=hlo5 _ h;omega
   omega
  have hs8:=hg.size
  have hbox8:=bo.kept hg (fun e=>by have:=hlo5 _ e.symm;omega)
  have kz8:=kz.kept hg (fun e=>by have:=hlo5 _ e.symm;omega)
  have kq8:=kq.kept hg (fun e=>by have:=hlo5 _ e.symm;omega)
  have kp8:=kp.kept hg (fun e=>by have:=hlo5 _ e.symm;omega)
  have hw8:Below w.heap.size w w8:=HBE.out w8 hb8
  refine (pieces_loc w.heap.size (w.heap.size+1+1+1) (w.heap.size+1) w6.heap.size w4.heap.size (partF (fun y=>z.resV y g f) (fun y=>q.resV y g f)) (fun s=>part_len _ _ s) (Cz++Cq) (H (some ⟨gg,0,I⟩) (Cz.length+Cq.length) cap) a b w8 hsp2.2.1 hlen hown' (by omega) (by omega) hbox8
   (fun w0 L s Wk hg0 hP h1 h2 h3 hl=>HI.out w.heap.size (w.heap.size+1+1+1) (w.heap.size+1) w6.heap.size w0 Wk L s ⟨by omega,h2,by omega⟩ (hw8.grown hg0 hw8.size fun r er=>by obtain rfl:gg=r:=(by simpa [Value.ownBlock] using er);omega) (by omega)
    (kz8.kept hg0 (fun e=>by simp [Value.ownBlock] at e;omega)) (kq8.kept hg0 (fun e=>by simp [Value.ownBlock] at e;omega)) (kp8.kept hg0 (fun e=>by simp [Value.ownBlock] at e;omega)) (by omega) (by omega) (by omega) hl hP)).mono ?_
  rintro e w9 ⟨rfl,w0,hg0,hP9⟩
  have hb0:Below W.heap.size W w0:=hb8.grown hg0 hb8.size fun r er=>by obtain rfl:gg=r:=(by simpa [Value.ownBlock] using er);omega
  exact ⟨rfl,hb0.trans (hP9.old (show W.heap.size≤w6.heap.size by omega)),w0,nLt hw hb0.size,hP9⟩)
 clear HI kz kq kp bo hlo5
 have i0:=(HS.out _ hdr).2.1
 have i1:=(HS.out _ hdr).2.2
 have HD:=Hh (HLH.out ((Cz++Cq++[a,b]).mergeSort fun x y=>decide (x≤y)) (Zz2S _) (mem_ms.2 (by simp)) (fun c hc=>mem_ms.2 (by simp [hc])) (fun c hc=>mem_ms.2 (by simp [hc])))
 have hpl:=Zz13 b a ((Cz++Cq++[a,b]).mergeSort fun x y=>decide (x≤y))
 have hdl:=Zz42 (part_len (fun y=>z.resV y g f) (fun y=>q.resV y g f)) (piecesC b a ((Cz++Cq++[a,b]).mergeSort fun x y=>decide (x≤y)))
 have hpk:=(Zz16 b (f:=a) (Zz2S (Cz++Cq++[a,b])) (by omega)).1
 have hdo:∀ s∈(piecesC b a ((Cz++Cq++[a,b]).mergeSort fun x y=>decide (x≤y))).flatMap (partF (fun y=>z.resV y g f) (fun y=>q.resV y g f)),s.ok=true:=fun s hs=>by
  obtain ⟨p,hp,hs⟩:=List.mem_flatMap.1 hs
  have h:=(hpk p hp).1
  have h2:=part_in h.2.1 s hs
  exact Spn.ok_iff.2 ⟨by omega,by omega,by omega⟩
 rw [List.length_mergeSort] at hpl
 have hal:(Cz++Cq++[a,b]).length≤8*N+10:=by rw [List.length_append,List.length_append];simp only [List.length_cons,List.length_nil];omega
 generalize (piecesC b a ((Cz++Cq++[a,b]).mergeSort fun x y=>decide (x≤y))).flatMap (partF (fun y=>z.resV y g f) (fun y=>q.resV y g f))=D at *
 have hdl2:D.length≤2*(8*N+10):=by omega
 clear hdl hpl hpk hal
 go_region_held3 (fun w'=>Below W.heap.size W w'∧w'.cell? ⟨w.heap.size+1+1,0,I⟩=some (C E a)∧w'.cell? ⟨w.heap.size+1+1,1,I⟩=some (C E b)) (first|exact HS.out _ hdr|exact HS.out _ hb9|exact HS.out _ K8|go_keep)
  (first
   | (refine step_append_lies _ (by rfl) _ _ _ (by rfl) w4.heap.size 3 i0' _ 1 8 Tryz.underlying53 hi0 hz0 hz1 hz2 rfl (by omega) _ _ _ (by rfl) HO7.out ⟨g6,o6,I⟩ Cq.length c6 (Cq.map (C E)) (by rfl) (by simp) HNW.out (map_oneT Cq) hcL (by simp only [maxLen];omega) (by omega) (by omega) _ rfl ?_;intro gg cap w8 hown8 hg8 hat8 hlt8;have K8:Below W.heap.size W w8:=Zz3 HO7.out (by omega) hdr hg8)
   | (go_at_call 22;refine (HPC.out gg cap w8 hown8 hg8 hat8 K8).mono ?_;rintro e w9 ⟨rfl,hb9,w0,hw0,hP9⟩;obtain ⟨_,hoo,u,hbu,hou,hnil⟩:=hP9;have o0:=hbu.cell;have ol:=hbu.lt))
 all_goals
  have hb10:=HBE.out w9 hb9
  go_wp2_with fail
  by_cases hD:D=[]
  ·have hu:=hnil hD
   subst hu
   subst hD
   refine (Of_nil _).mono ?_
   rintro e w10 ⟨rfl,hbx⟩
   go_wp2
   go_ret2
   exact ⟨hb10.trans (hbx.mono hb10.size),.inr ⟨hvz,hvq,hpo,hsp,[],Zz23,HD.out,by simp,.inl ⟨by simp,_,rfl,World.ownsRow_nil _ _ _ _⟩⟩⟩
  have hOf:=Of_runs2 D u w9 (List.length_pos_iff.2 hD) (by omega) hdo (Zz7 Zzy hou rfl)
  unfold OfEnd2 at hOf
  refine hOf.mono ?_
  rintro e w10 ⟨out,hc,hm,_,hlen,hbx,h10⟩
  rcases h10 with ⟨h2,u',rfl,hown10⟩|⟨h2,rfl⟩
  ·go_wp2
   go_ret2
   exact ⟨hb10.trans (hbx.mono hb10.size),.inr ⟨hvz,hvq,hpo,hsp,out,hc,fun t=>(hm t).trans (HD.out t),by omega,.inl ⟨h2,u',rfl,Zz1l hown10 hb10.size⟩⟩⟩
  go_wp2
  go_ret2
  exact ⟨hb10.trans (hbx.mono hb10.size),.inr ⟨hvz,hvq,hpo,hsp,out,hc,fun t=>(hm t).trans (HD.out t),by omega,.inr ⟨h2,rfl⟩⟩⟩
theorem Zz4v (z q:Zn) (vTz vRz vTq vRq:Value) (a b g f:Int) (w:World) (hm:HasMax w)
  (hTz:Rd Trn.cells 4 w vTz z.table) (hRz:Rd Rule.cells 11 w vRz z.tail) (hTq:Rd Trn.cells 4 w vTq q.table) (hRq:Rd Rule.cells 11 w vRq q.tail) (hfz:z.form.size<4294967281) (hfq:q.form.size<4294967281) (hlz:z.tail.length≤12) (hlq:q.tail.length≤12) (htz:z.table.length≤300) (htq:q.table.length≤300)
  (hcz:z.valid=true→spanV a b=true→(z.betF (cutA a) (cutB b)).length≤110) (hcq:q.valid=true→spanV a b=true→(q.betF (cutA a) (cutB b)).length≤110) :
  Calls Tryz.prog 13 #[z.v vTz vRz,q.v vTq vRq,.agg #[C E a,C E b],.agg #[C E g,C E f]] w (LocEnd z q a b g f w):=by
 refine (Locals_gen 110 (by omega) z q vTz vRz vTq vRq a b g f w hm hTz hRz hTq hRq hfz hfq hlz hlq htz htq hcz hcq).mono ?_
 rintro e w' ⟨h1,h|⟨h2,h3,h4,h5,out,h6,h7,h8,⟨_,u,h9,h10⟩|⟨h9,_⟩⟩⟩
 ·exact ⟨h1,.inl h⟩
 ·exact ⟨h1,.inr ⟨h2,h3,h4,h5,out,u,h6,h7,by omega,h9,h10⟩⟩
 omega
/- slices.Equal at spans; runs.Equal of two lists that are one. -/
theorem neS:Go.Proofs.NeqAt Tryz.prog 29 (fun x=>.agg (encN x).toArray) (fun x y=>x.fr == y.fr && x.to == y.to):=by
 refine ⟨fun x y w=>?_,Go.Proofs.GuardAt.agg _ (by kernel_rfl)⟩
 have u3:=Tryz.underlying3
 have hS:Tryz.prog.underlying 29=some (.struct (Tryz.prog.fieldsOf 29)):=by kernel_rfl
 have hp:Tryz.prog.stoodInHeld 29=false:=by kernel_rfl
 have a3:∀ w,(isAgg 3).run Tryz.prog w=.ok false w:=fun w=>by kernel_rfl
 have z3:∀ w,(Go.sizeOf 3).run Tryz.prog w=.ok 1 w:=fun w=>by kernel_rfl
 simp only [encN]
 rw [run_neq_struct,show (10000:Nat)=9999+1 from rfl,run_equalIn_agg w 9999 29 _ _ hS hp]
 simp only [Program.fieldsOf,Tryz.underlying29]
 go_simp
 by_cases h1:x.fr=y.fr <;> by_cases h2:x.to=y.to <;> simp [h1,h2]
theorem Zz7l (es:List Spn):Lib.allEq (fun x y:Spn=>x.fr == y.fr && x.to == y.to) es es=true:=by
 apply Lib.allEq_all
 ·rfl
 intro j _;simp
theorem EqS_same (es:List Spn) (v1 v2:Value) (w:World) (hl:es.length≤1000000) (h1:Rd encN 2 w v1 es) (h2:Rd encN 2 w v2 es) :
  Calls Tryz.prog 17 #[v1,v2] w fun e w'=>e=K (.bool true)∧Below w.heap.size w w':=by
 rcases h1 with ⟨rfl,A,c,rfl⟩|⟨b1,o1,c1,rfl,hg1,hc1⟩
 ·obtain ⟨A2,c2,rfl⟩:∃ A c,v2=H A 0 c:=by
   rcases h2 with ⟨_,A2,c2,rfl⟩|⟨b2,o2,c2,rfl,_⟩
   ·exact ⟨_,_,rfl⟩
   exact ⟨_,_,rfl⟩
  go_enter Tryz.func17,Tryz.ntmps17
  go_wp2
  refine wp_loop_rounds 1 ?_
  rw [rounds_succ]
  go_wp2
  go_ret
  exact ⟨rfl,Below.refl _ _⟩
 rcases h2 with ⟨rfl,A2,c2,rfl⟩|⟨b2,o2,c2,rfl,hg2,hc2⟩
 ·go_enter Tryz.func17,Tryz.ntmps17
  go_wp2
  refine wp_loop_rounds 1 ?_
  rw [rounds_succ]
  go_wp2
  go_ret
  exact ⟨rfl,Below.refl _ _⟩
 have h:=Tryz.slices_Equal 2 isAggS sizeOfS encN Zzy _ neS b1 o1 es.length c1 b2 o2 es.length c2 es es w nlR nlR (by omega) (by omega) hc1 hc2
 rw [List.take_length,Zz7l] at h
 refine h.mono ?_
 rintro e w' ⟨rfl,q,rfl⟩
 exact ⟨rfl,Zz1 bLR _⟩
/- civiltimelaw24.awake. -/
def fxA:Zn:=⟨⟨#[65]⟩,⟨3600,0,⟨#[43,48,49,48,48]⟩⟩,[],[],0,⟨#[]⟩,0⟩
def fxB:Zn:=⟨⟨#[66]⟩,⟨7200,0,⟨#[43,48,50,48,48]⟩⟩,[],[],0,⟨#[]⟩,0⟩
theorem Zz6A:fxA.valid=true:=by decide +kernel
theorem fxB_valid:fxB.valid=true:=by decide +kernel
theorem fxA_T:fxA.T=[]:=rfl
theorem fxB_T:fxB.T=[]:=rfl
theorem fxA_typ (t:Int):fxA.typF t=fxA.first:=by
 unfold Zn.typF Zn.prevF
 rw [fxA_T]
 rfl
theorem fxB_typ (t:Int):fxB.typF t=fxB.first:=by
 unfold Zn.typF Zn.prevF
 rw [fxB_T]
 rfl
theorem fxA_bet (a b:Int):fxA.betF a b=[]:=by
 unfold Zn.betF
 rw [fxA_T]
 rfl
theorem one_span {out:List Spn} (hc:Canon out) (h:∀ t,hasL out t↔(0≤t∧t<100)∧fxA.typF t≠fxB.typF t):out=[⟨0,100⟩]:=by
 refine Zz2I hc ⟨List.pairwise_singleton _ _,fun s hs=>by rw [List.mem_singleton] at hs;subst hs;decide⟩ fun x=>?_
 rw [h x,fxA_typ,fxB_typ]
 unfold hasL Spn.has
 simp
 intro _ _ h
 have:=congrArg Typ.off h
 revert this
 decide
theorem no_span {out:List Spn} (hc:Canon out) {p:Int→Prop} {α:Type} {f:Int→α} (h:∀ t,hasL out t↔p t∧f t≠f t):out=[] :=
 Zz2I hc Zz23 fun x=>by
  rw [h x]
  constructor
  ·intro h;exact (h.2 rfl).elim
  rintro ⟨s,hs,_⟩;cases hs
theorem pol11:polB 1 1=true:=by decide +kernel
theorem span100:spanV 0 100=true:=by decide +kernel
set_option maxRecDepth 100000 in
set_option maxHeartbeats 1500000 in
theorem Zz7n (w:World) (hm:HasMax w):Calls Tryz.prog 5 #[] w fun e w'=>e=K (.bool true)∧Below w.heap.size w w':=by
 have HA:=Hh (fun W=>fixedA W)
 have HB:=Hh (fun W=>fixedB W)
 have HI:=Hh (fun W (hb:Below w.heap.size w W)=>Zz5m fxA fxB (H none 0 0) (H none 0 0) (H none 0 0) (H none 0 0) 0 100 W (hm.on hb) (.inl ⟨rfl,none,0,rfl⟩) (.inl ⟨rfl,none,0,rfl⟩) (.inl ⟨rfl,none,0,rfl⟩) (.inl ⟨rfl,none,0,rfl⟩) (by decide) (by decide) (by decide) (by decide) (by decide) (by decide) (fun _=>by decide))
 have HL:=Hh (fun W (hb:Below w.heap.size w W)=>Zz4v fxA fxA (H none 0 0) (H none 0 0) (H none 0 0) (H none 0 0) 0 100 1 1 W (hm.on hb) (.inl ⟨rfl,none,0,rfl⟩) (.inl ⟨rfl,none,0,rfl⟩) (.inl ⟨rfl,none,0,rfl⟩) (.inl ⟨rfl,none,0,rfl⟩) (by decide) (by decide) (by decide) (by decide) (by decide) (by decide) (fun _ _=>by rw [fxA_bet];decide) (fun _ _=>by rw [fxA_bet];decide))
 clear hm
 unfold InstEnd Zn.v at HI
 unfold LocEnd Zn.v at HL
 rw [Zz6A,fxB_valid,span100] at HI
 rw [Zz6A,pol11,span100] at HL
 dsimp only [fxA,fxB] at HI HL
 go_enter Tryz.func5,Tryz.ntmps5
 go_wp2_with fail
 refine (HA.out w).mono ?_
 rintro e w1 ⟨rfl,hb1⟩
 clear HA
 have ba:=Blk.new w1 #[G ⟨#[65]⟩,C E 3600,C E 0,G ⟨#[43,48,49,48,48]⟩,H none 0 0,H none 0 0,C E 0,G ⟨#[]⟩,C E 0] 27
 have hB1:Below w.heap.size w (w1.alloc (J #[G ⟨#[65]⟩,C E 3600,C E 0,G ⟨#[43,48,49,48,48]⟩,H none 0 0,H none 0 0,C E 0,G ⟨#[]⟩,C E 0] 27)):=hb1.alloc hb1.size _
 go_wp2_with fail
 generalize hw1:w1.alloc (J #[G ⟨#[65]⟩,C E 3600,C E 0,G ⟨#[43,48,49,48,48]⟩,H none 0 0,H none 0 0,C E 0,G ⟨#[]⟩,C E 0] 27)=wa at *
 clear hw1
 refine (HB.out wa).mono ?_
 rintro e w2 ⟨rfl,hb2⟩
 clear HB
 have ba:=(ba.below hb2 ba.lt).alloc (J #[G ⟨#[66]⟩,C E 7200,C E 0,G ⟨#[43,48,50,48,48]⟩,H none 0 0,H none 0 0,C E 0,G ⟨#[]⟩,C E 0] 27)
 have bb:=Blk.new w2 #[G ⟨#[66]⟩,C E 7200,C E 0,G ⟨#[43,48,50,48,48]⟩,H none 0 0,H none 0 0,C E 0,G ⟨#[]⟩,C E 0] 27
 have hB2:Below w.heap.size w (w2.alloc (J #[G ⟨#[66]⟩,C E 7200,C E 0,G ⟨#[43,48,50,48,48]⟩,H none 0 0,H none 0 0,C E 0,G ⟨#[]⟩,C E 0] 27)):=(hB1.trans (hb2.mono hB1.size)).alloc (hB1.trans (hb2.mono hB1.size)).size _
 have ba:=ba.alloc (J #[C E 0,C E 100] 29)
 have bb:=bb.alloc (J #[C E 0,C E 100] 29)
 have bi:=Blk.new (w2.alloc (J #[G ⟨#[66]⟩,C E 7200,C E 0,G ⟨#[43,48,50,48,48]⟩,H none 0 0,H none 0 0,C E 0,G ⟨#[]⟩,C E 0] 27)) #[C E 0,C E 100] 29
 have hB3:Below w.heap.size w ((w2.alloc (J #[G ⟨#[66]⟩,C E 7200,C E 0,G ⟨#[43,48,50,48,48]⟩,H none 0 0,H none 0 0,C E 0,G ⟨#[]⟩,C E 0] 27)).alloc (J #[C E 0,C E 100] 29)):=hB2.alloc hB2.size _
 simp only [World.size_alloc] at bi
 have La:=ba.lt
 have a0:=Zz0 ba 0 _ rfl
 have a1:=Zz0 ba 1 _ rfl
 have a2:=Zz0 ba 2 _ rfl
 have a3:=Zz0 ba 3 _ rfl
 have a4:=Zz0 ba 4 _ rfl
 have a5:=Zz0 ba 5 _ rfl
 have a6:=Zz0 ba 6 _ rfl
 have a7:=Zz0 ba 7 _ rfl
 have a8:=Zz0 ba 8 _ rfl
 have Lb:=bb.lt
 have b0:=Zz0 bb 0 _ rfl
 have b1:=Zz0 bb 1 _ rfl
 have b2:=Zz0 bb 2 _ rfl
 have b3:=Zz0 bb 3 _ rfl
 have b4:=Zz0 bb 4 _ rfl
 have b5:=Zz0 bb 5 _ rfl
 have b6:=Zz0 bb 6 _ rfl
 have b7:=Zz0 bb 7 _ rfl
 have b8:=Zz0 bb 8 _ rfl
 have Li:=bi.lt
 have i0:=Zz0 bi 0 _ rfl
 have i1:=Zz0 bi 1 _ rfl
 go_wp2_with fail
 generalize (w2.alloc (J #[G ⟨#[66]⟩,C E 7200,C E 0,G ⟨#[43,48,50,48,48]⟩,H none 0 0,H none 0 0,C E 0,G ⟨#[]⟩,C E 0] 27)).alloc (J #[C E 0,C E 100] 29)=w3 at *
 refine (HI.out w3 hB3).mono ?_
 rintro e w4 ⟨hb4,h4⟩
 clear HI
 rcases h4 with ⟨h,_⟩|⟨_,_,_,out,u,hc,hm,_,rfl,hown⟩
 ·rcases h with h|h|h <;> cases h
 have ho:=one_span hc hm
 subst ho
 have hR4:=Zz7 Zzy hown rfl
 have hn4:=Zzl hown
 have hB4:=hB3.trans (hb4.mono hB3.size)
 clear hc hm hown
 have ba4:=ba.below hb4 ba.lt
 have bi4:=bi.below hb4 bi.lt
 clear La a0 a1 a2 a3 a4 a5 a6 a7 a8 Lb b0 b1 b2 b3 b4 b5 b6 b7 b8 Li i0 i1
 have La:=ba4.lt
 have a0:=Zz0 ba4 0 _ rfl
 have a1:=Zz0 ba4 1 _ rfl
 have a2:=Zz0 ba4 2 _ rfl
 have a3:=Zz0 ba4 3 _ rfl
 have a4:=Zz0 ba4 4 _ rfl
 have a5:=Zz0 ba4 5 _ rfl
 have a6:=Zz0 ba4 6 _ rfl
 have a7:=Zz0 ba4 7 _ rfl
 have a8:=Zz0 ba4 8 _ rfl
 have Li:=bi4.lt
 have i0:=Zz0 bi4 0 _ rfl
 have i1:=Zz0 bi4 1 _ rfl
 go_wp2_with fail
 refine (HL.out w4 hB4).mono ?_
 rintro e w5 ⟨hb5,h5⟩
 clear HL
 rcases h5 with ⟨h,_⟩|⟨_,_,_,_,out,u',hc,hm,_,rfl,hown⟩
 ·rcases h with h|h|h|h <;> cases h
 have ho:=no_span (p:=fun t=>0≤t∧t<100) (f:=fun t=>fxA.resV t 1 1) hc hm
 subst ho
 have hR5:=Zz7 Zzy hown rfl
 have hn5:=Zzl hown
 obtain ⟨A5,c5,rfl⟩:=Zzb hR5
 obtain ⟨A4,c4,rfl⟩:=Zzb hR4
 have hB5:=hB4.trans (hb5.mono hB4.size)
 have HR:=Hh (hR4.on hb5)
 clear hc hm hown hR5 hR4
 have bi5:=bi4.below hb5 bi4.lt
 clear La a0 a1 a2 a3 a4 a5 a6 a7 a8 Li i0 i1
 have Li:=bi5.lt
 have i0:=Zz0 bi5 0 _ rfl
 have i1:=Zz0 bi5 1 _ rfl
 go_wp2_with fail
 have hRn:Rd encN 2 (w5.alloc (J #[C E 0,C E 100] 29)) (H (some ⟨w5.heap.size,0,I⟩) 1 1) [(⟨0,100⟩:Spn)] :=
  .inr ⟨w5.heap.size,0,1,rfl,by simp,fun j hj i u hu=>by
   have hj0:j=0:=by simp at hj;omega
   subst hj0
   have:=Zz2 w5 [C E 0,C E 100] 29 i u hu
   simpa using this⟩
 have hb6:Below w5.heap.size w5 (w5.alloc (J #[C E 0,C E 100] 29)):=Zz6 w5 _
 refine (EqS_same [(⟨0,100⟩:Spn)] _ _ _ (by decide) (HR.out.on hb6) hRn).mono ?_
 rintro e w6 ⟨rfl,hb7⟩
 have hBF:Below w.heap.size w w6:=(hB5.trans (hb6.mono hB5.size)).trans (hb7.mono (hB5.trans (hb6.mono hB5.size)).size)
 clear bi5 Li i0 i1 hRn HR hb6 hb7
 go_wp2
 go_ret
 exact ⟨rfl,hBF⟩
end Go.Proofs.YtmmgdjgcikbhbaaGreat
