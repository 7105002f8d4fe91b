/- Joined by merge.py: VerL1, VerL2. -/
import Derived.Test.YtmmgdjgcikbhbaaGreatGVs
import Derived.IntWalk
/- civiltimelaw24: long, Span, Same, has. -/
open Go.Value renaming int → B
open Go.IntKind renaming i64 → C
open Option renaming none → D
namespace Go.Proofs.YtmmgdjgcikbhbaaGreat
set_option linter.unusedSimpArgs false
set_option linter.unusedVariables false
open Go.ChangeShapes Go.WideShapes Go.ChangeAt Go.RowKit
theorem Zz3L (a b:Int) (w:World):Calls Tryz.prog 10 #[.agg #[B C a,B C b]] w fun e w'=>e=.returned (.bool (spanV a b))∧Below w.heap.size w w':=by
 have HBZ:=Hh (show Below w.heap.size w (w.alloc (.cells #[B C a,B C b] 29)) from bLR.alloc nlR _)
 unfold spanV
 by_cases h1 : -62135596800≤a
 ·rw [dTt h1,Bool.true_and]
  by_cases h2:a<b
  ·rw [dTt h2,Bool.true_and]
   go_enter Tryz.func10,Tryz.ntmps10
   go_wp2
   go_ret
   exact ⟨rfl,HBZ.out⟩
  rw [dFf h2,Bool.false_and]
  go_enter Tryz.func10,Tryz.ntmps10
  go_wp2
  go_ret
  exact ⟨ret1 (vbool (by simp)),HBZ.out⟩
 rw [dFf h1,Bool.false_and]
 go_enter Tryz.func10,Tryz.ntmps10
 go_wp2
 go_ret
 exact ⟨ret1 (vbool (by simp)),HBZ.out⟩
def longV (a b y:Int):Bool:=spanV a b && decide (y*31622400<b-a)
theorem long_any (a b y:Int) (hy:0≤y∧y≤1000) (w:World):Calls Tryz.prog 7 #[.agg #[B C a,B C b],B C y] w fun e w'=>e=.returned (.bool (longV a b y))∧Below w.heap.size w w':=by
 have HS:=Hh (fun W=>Zz3L a b W)
 have b0:=Blk.new w #[B C a,B C b] 29
 have HBZ:=Hh (show Below w.heap.size w (w.alloc (.cells #[B C a,B C b] 29)) from bLR.alloc nlR _)
 unfold longV
 cases hs:spanV a b
 ·rw [hs] at HS
  clear hs
  go_enter Tryz.func7,Tryz.ntmps7
  go_wp2_with fail
  refine (HS.out _).mono ?_
  rintro e w1 ⟨rfl,hb1⟩
  go_wp2
  go_ret
  exact ⟨ret1 (vbool (by simp)),HBZ.out.trans (hb1.mono HBZ.out.size)⟩
 rw [hs] at HS
 have hb : -62135596800≤a∧a<b∧b≤253402300800:=by
  unfold spanV at hs
  simp at hs
  omega
 clear hs
 go_enter Tryz.func7,Tryz.ntmps7
 go_wp2_with fail
 generalize w.alloc (.cells #[B C a,B C b] 29)=W at *
 refine (HS.out _).mono ?_
 rintro e w1 ⟨rfl,hb1⟩
 have k0:=b0.below hb1 b0.lt
 have x0:=k0.cell 0 (v:=B C a) rfl
 have x1:=k0.cell 1 (v:=B C b) rfl
 go_wp2
 go_ret
 exact ⟨ret1 (vbool (by rw [Bool.true_and];rw [decide_eq_decide];omega)),HBZ.out.trans (hb1.mono HBZ.out.size)⟩
set_option maxHeartbeats 2000000 in
theorem same_yes (l:List Spn) (v u:Value) (w:World) (hl:l.length≤1000000) (hv:Rd encN 2 w v l) (hu:Rd encN 2 w u l):Calls Tryz.prog 12 #[v,u] w fun e w'=>e=.returned (.bool true)∧Below w.heap.size w w':=by
 have HV:=Hh hv
 have HU:=Hh hu
 obtain ⟨A,c,rfl⟩:=Zzb hv
 obtain ⟨A',c',rfl⟩:=Zzb hu
 clear hv hu
 go_enter Tryz.func12,Tryz.ntmps12
 go_wp2
 go_loopw [5] (fun i wr=>∃ k:Nat,k≤l.length∧i=B C k∧Below w.heap.size w wr) (fun i _=>l.length-(intOf i).toNat)
 case atStart=>exact ⟨0,Nat.zero_le _,rfl,Below.refl _ _⟩
 case round =>
  obtain ⟨k,hk,rfl,hb⟩:=hrel
  by_cases hlt:k<l.length
  ·obtain ⟨g,o,hA,hg,hc⟩:∃ g o,A=some ⟨g,o,D⟩∧g<wr.heap.size∧∀ i u,(encN l[k]!)[i]? = some u→wr.cell? ⟨g,o+k*2+i,D⟩=some u:=by
    rcases HV.out.on hb with ⟨e,_⟩|⟨g,o,c2,hv,hg,hc⟩
    ·rw [e] at hlt;simp at hlt
    injection hv with e1 _ _
    exact ⟨g,o,e1,hg,hc k hlt⟩
   obtain ⟨g',o',hA',hg',hc'⟩:∃ g o,A'=some ⟨g,o,D⟩∧g<wr.heap.size∧∀ i u,(encN l[k]!)[i]? = some u→wr.cell? ⟨g,o+k*2+i,D⟩=some u:=by
    rcases HU.out.on hb with ⟨e,_⟩|⟨g,o,c2,hv,hg,hc⟩
    ·rw [e] at hlt;simp at hlt
    injection hv with e1 _ _
    exact ⟨g,o,e1,hg,hc k hlt⟩
   subst hA hA'
   have c0:=hc 0 _ rfl
   have c1:=hc 1 _ rfl
   have d0:=hc' 0 _ rfl
   have d1:=hc' 1 _ rfl
   rw [Nat.add_zero] at c0 d0
   generalize (l[k]!).fr=f at *
   generalize (l[k]!).to=t at *
   have pc0:∀ p:Bel wr.heap.size wr,p.w1.cell? ⟨g,o+k*2,D⟩=some (B C f):=fun p=>(Zzi p _ _ hg).trans c0
   have pc1:∀ p:Bel wr.heap.size wr,p.w1.cell? ⟨g,o+k*2+1,D⟩=some (B C t):=fun p=>(Zzi p _ _ hg).trans c1
   have pd0:∀ p:Bel wr.heap.size wr,p.w1.cell? ⟨g',o'+k*2,D⟩=some (B C f):=fun p=>(Zzi p _ _ hg').trans d0
   have pd1:∀ p:Bel wr.heap.size wr,p.w1.cell? ⟨g',o'+k*2+1,D⟩=some (B C t):=fun p=>(Zzi p _ _ hg').trans d1
   clear hc hc' c0 c1 d0 d1
   go_wp2_with fail
   refine Zzr (by kernel_rfl) (by kernel_rfl) ?_
   repeat (go_big_quiet_step (fail))
   refine wpQuiet_nil ?_
   intro w9 hw'
   obtain ⟨⟨w9',hb9⟩,hw2⟩:=hw'
   subst hw2
   clear pc0 pc1 pd0 pd1
   go_wp2
   go_roundw
   case rel=>exact ⟨k+1,by omega,by go_num,hb.trans (hb9.mono hb.size)⟩
   case measure=>simp [intOf];omega
  have hk':k=l.length:=by omega
  subst hk'
  go_wp2
  go_ret
  exact ⟨rfl,hb⟩
/- civiltimelaw24.great: a list of zones. -/
open Go.ChangeShapes Go.WideShapes Go.ChangeAt Go.RowKit Go.Sort Go.Lib
def bigV (z:Zn):Bool:=decide ((60:Int)<(z.table.length:Int)) || decide ((6:Int)<(z.tail.length:Int))
theorem great1_any (w:World):PredBelow Tryz.prog 19 #[] (fun x:ZV=>.agg (encZ x).toArray) (fun x=>bigV x.z) w:=by
 intro W x hb
 obtain ⟨z,vT,vR,⟨A,c,rfl⟩,⟨A',c',rfl⟩⟩:=x
 show Calls Tryz.prog 19 #[.agg #[.string z.nm,B C z.first.off,B C z.first.sv,.string z.first.nm,.slice A z.table.length c,.slice A' z.tail.length c',B C z.off,.string z.form,B C z.year]] W fun e w'=>e=.returned (.bool (bigV z))∧_
 unfold bigV
 by_cases h1:(60:Int)<(z.table.length:Int)
 ·have d1:=dTt h1
  go_enter Tryz.func19,Tryz.ntmps19
  go_wp2
  go_ret
  exact ⟨ret1 (vbool (by simp [h1])),hb.alloc hb.size _⟩
 have d1:=dFf h1
 go_enter Tryz.func19,Tryz.ntmps19
 go_wp2
 go_ret
 exact ⟨ret1 (vbool (by simp [h1])),hb.alloc hb.size _⟩
theorem Zz7p (x y:ZV) (g:Nat) (w:World) (hg:g<w.heap.size) (hc:∀ j u,(encZ x++encZ y)[j]? = some u→w.cell? ⟨g,j,D⟩=some u) :
  Calls Tryz.prog 6 #[.slice (some ⟨g,0,D⟩) 2 2] w fun e w'=>e=.returned (.bool (bigV x.z || bigV y.z))∧Below w.heap.size w w':=by
 have H:=Hh (Tryz.slices_ContainsFunc_f18 9 isAggZ sizeOfZ encZ Zz32 (fun x=>bigV x.z) 19 #[] (enters_of Tryz.func19 (by kernel_rfl) rfl) g 0 2 2 [x,y] w (great1_any w) nlR (by decide) hg (fun j hj i v hv=>by
  rcases Nat.lt_or_ge j 1 with h|h
  ·obtain rfl:j=0:=by omega
   have h9:i<9:=by have:=(List.getElem?_eq_some_iff.1 hv).1;rwa [Zz32] at this
   have:=hc i v (by rw [List.getElem?_append_left (by rw [Zz32];exact h9)];exact hv)
   simpa using this
  obtain rfl:j=1:=by simp at hj;omega
  have:=hc (9+i) v (by rw [List.getElem?_append_right (by rw [Zz32];omega),Zz32,Nat.add_sub_cancel_left];exact hv)
  simpa using this))
 go_enter Tryz.func6,Tryz.ntmps6
 go_wp2_with fail
 refine H.out.mono ?_
 rintro e w1 ⟨rfl,hb1⟩
 go_wp2
 go_ret
 exact ⟨ret1 (vbool (by simp)),hb1⟩
end Go.Proofs.YtmmgdjgcikbhbaaGreat
