/- Joined by merge.py: Intv, LocW11, RunsW. -/
import Derived.Test.YtmmgdjgcikbhbaaGreatGVp
import Derived.Test.YtmmgdjgcikbhbaaGreatGLb
/- interval.Meet. Printed by gen_intv.py. -/
namespace Go.Proofs.YtmmgdjgcikbhbaaGreat
set_option linter.unusedSimpArgs false
set_option linter.unusedVariables false
open Go.ChangeShapes Go.WideShapes Go.ChangeAt Go.RowKit
theorem iv_ok (s:Spn):ivB s.fr s.to=s.ok:=by
 rw [Bool.eq_iff_iff,Spn.ok_iff]
 unfold ivB lineB
 simp only [Bool.and_eq_true,decide_eq_true_eq]
 omega
def encN (s:Spn):List Value:=[.int .i64 s.fr,.int .i64 s.to]
theorem Zzy (s:Spn):(encN s).length=2:=rfl
theorem Zzz (s:Spn):∀ v∈encN s,v.oneCell'=true:=by intro v hv;simp [encN] at hv;rcases hv with rfl|rfl <;> rfl
/- local.images. Printed by gen_locw11.py. -/
open Go.RowKit Go.Shelf Go.ChangeShapes Go.WideShapes Go.ChangeAt
attribute [local go_sem] Oper.semAt_some
theorem Zz1J:(Tryz.prog.info? 29).map (fun i=>(i.zero,i.size,i.bytes))=some (some (.agg #[.int .i64 0,.int .i64 0]),2,16):=by kernel_rfl
/- runs.Valid, runs.search, runs.Has. -/
theorem rd_at {w:World} {A:Option Addr} {n c:Nat} {l:List Spn} (h:Rd encN 2 w (.slice A n c) l):n=l.length∧((l=[] )∨∃ g o,A=some ⟨g,o,none⟩∧g<w.heap.size∧∀ k,k<l.length→w.cell? ⟨g,o+k*2,none⟩=some (.int .i64 (l[k]!).fr)∧w.cell? ⟨g,o+k*2+1,none⟩=some (.int .i64 (l[k]!).to)):=by
 rcases h with ⟨e,A',c',hv⟩|⟨g,o,c',hv,hg,hc⟩
 ·injection hv with _ hn _
  subst e
  exact ⟨hn,.inl rfl⟩
 injection hv with e1 hn _
 refine ⟨hn,.inr ⟨g,o,e1,hg,fun k hk=>⟨?_,?_⟩⟩⟩
 ·have:=hc k hk 0 _ rfl
  rwa [Nat.add_zero] at this
 exact hc k hk 1 _ rfl
structure Idx (l:List Spn) (x:Int) (i:Nat):Prop where
 le:i≤l.length
 lo:∀ j,j<i→(l[j]!).to≤x
 hi:∀ j,i≤j→j<l.length→x<(l[j]!).to
end Go.Proofs.YtmmgdjgcikbhbaaGreat
