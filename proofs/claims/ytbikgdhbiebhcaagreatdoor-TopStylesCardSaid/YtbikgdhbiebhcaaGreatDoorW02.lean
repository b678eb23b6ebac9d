/- Part 2. -/
import Derived.Test.YtbikgdhbiebhcaaGreatDoorW01
import Derived.Deep.Cut
import Derived.Deep.CutRange
import Derived.BigGuard
import Derived.Deep.DrawnRows
import Derived.BigRegion
import Derived.Deep.Draws
import Derived.RangeFuncNested
import Derived.RangeFuncCalls
import Derived.RangeFuncLeaves
import Derived.OwnWalkIn
import Derived.Stop.RegionWithIn
set_option linter.unusedVariables false
set_option linter.unusedSimpArgs false
set_option maxRecDepth 100000
set_option maxHeartbeats 2000000
open Go.Value renaming int -> V, string -> U, pointer -> Z, func -> φ, agg -> γ, bool -> β
open Go.IntKind renaming i64 -> I
open Option renaming some -> W, none -> O
open Go.Obj renaming cells -> J
open Go.Ending renaming returned -> ρ
open Go.Proofs.Tryz renaming prog -> π
open Nat renaming le_refl -> η
open Go.RowKit.Below renaming refl -> ζ
namespace Go.Proofs.YtbikgdhbiebhcaaGreatDoor
open Go.RowKit Tryz
section
attribute [local go_sem ↓] Go.wp_at_zero Go.wp_at_succ
theorem nk(d:World)(a:Nat)(T:TypeId)(i g e b c f:Value)(j:d.heap[a]? =W (J #[i,g,e] T (0,0))):
 (((d.setCell ⟨a,0,O⟩ b).setCell ⟨a,1,O⟩ c).setCell ⟨a,2,O⟩ f).heap[a]? =W (J #[b,c,f] T (0,0)):=by
 have l:(d.setCell ⟨a,0,O⟩ b).heap[a]? =W (J #[b,g,e] T (0,0)):=ai j 0 b;have k:((d.setCell ⟨a,0,O⟩ b).setCell ⟨a,1,O⟩ c).heap[a]? =W (J #[b,c,e] T (0,0)):=ai l 1 c;exact ai k 2 f
theorem wt:(prog.info? 140).map (·.size)=W 3:=by kernel_rfl
theorem fQ(b:World)(p:Nat)(n i:Int)(t:ByteArray)(c:Bool)(a:Array Value)(e:b.heap[p]? =W (J #[V I n,V I i,U t] 140 (0,0)))(g:a.getD 2 undef=Z (W ⟨p,0,O⟩))(j:a.getD 3 undef=β c):
 (results f72 a).run π b.drew=.ok (.tuple #[γ #[V I n,V I i,U t],β c]) b.drew:=by
 have d:a[2]?.getD undef=Z (W ⟨p,0,O⟩):=by simpa using g
 have k:a[3]?.getD undef=β c:=by simpa using j
 have f:=run_loadVar_row (P:=π) b.drew p 140 140 _ (0,0) _ e underlying140 rfl wt;simp[results,results72,asAddr,d,k,f,Sem.run_bind,Result.andThen]
theorem qi(t s:ByteArray)(k:t.data.toList=Ln.lead s.data.toList):
 (t.toList.isEmpty=true/\Ln.says s.data.toList=false)\/(t.toList.isEmpty=false/\∃d:0 < t.size,(((t[0]'d).toNat:Int)==35)=true/\Ln.says s.data.toList=false)\/
 (t.toList.isEmpty=false/\∃d:0 < t.size,(((t[0]'d).toNat:Int)==35)=false/\Ln.says s.data.toList=true):=by
 unfold Ln.says;rw[<-k];by_cases a:0 < t.size
 ·have f:0 < t.data.toList.length:=by rw[ap];exact a
  have b:t.data.toList≠[]:=by intro e;rw[e]at f;simp at f
  have j:t.data.toList.head? =W (t[0]'a):=by
   rw[List.head?_eq_getElem?,zE f];rfl
  have g:t.toList.isEmpty=false:=by
   rw[ByteArray.toList_eq]
   simpa using b
  rw[j];by_cases c:(t[0]'a)=35
  ·exact .inr (.inl ⟨g,a,by rw[c];rfl,by simp[c]⟩)
  ·refine .inr (.inr ⟨g,a,?_,by simp[b,c]⟩)
   have:¬((t[0]'a).toNat:Int)=35:=λe=>c (UInt8.toNat_inj.1 (by show (t[0]'a).toNat=35;omega))
   simpa using this
 ·have b:t.data.toList=[]:=by
   have:=ap t;cases i:t.data.toList with
   |nil=>rfl
   |cons x u=>rw[i]at this;simp at this;omega
  refine .inl ⟨by rw[ByteArray.toList_eq,b];rfl,by rw[b];rfl⟩
theorem tS(s:ByteArray)(a0:s.size<=1000000)(a:Int)(w:World):Calls π 72 #[γ #[U s,V I a]] w λe w'=>
 (∃n i t,e=ρ (.tuple #[γ #[V I n,V I i,U t],β (Ln.says s.data.toList)])/\(⟨n,i,t.data.toList⟩:Ln.Line)=Ln.lineOf a s.data.toList)/\Below w.heap.size w w':=by
 obtain⟨t1,u⟩:∃t:ByteArray,(⟨(Lib.trimLeftB s.data.toList 32).toArray⟩:ByteArray)=t:=⟨_,rfl⟩;obtain⟨t2,v⟩:∃t:ByteArray,(⟨(Lib.trimRightB t1.data.toList 32).toArray⟩:ByteArray)=t:=⟨_,rfl⟩;have H:=λw=>strings_TrimLeft_one s 32 (by decide) w;have m:t1.data.toList=Ln.lead s.data.toList:=by rw[<-u];rfl
 have an:t1.size<=s.size:=by
  have F:=congrArg List.length m;rw[ap]at F;rw[F,<-ap];exact(List.dropWhile_suffix _).length_le
 have D:=λw=>strings_TrimRight_one t1 32 (by decide) w (by omega);have M:t2.data.toList=Ln.tail (Ln.lead s.data.toList):=by rw[<-v,m];rfl
 simp only[u]at H;simp only[v]at D;clear u v;obtain⟨q,o⟩:∃C,Ln.says s.data.toList=C:=⟨_,rfl⟩;rw[o]
 go_enter func72,ntmps72
 go_wp2_with fail
 refine(H _).mono ?_;rintro e X ⟨rfl,rfl⟩;have g:((w.alloc (Obj.cells #[Value.string s,Value.int IntKind.i64 a] 143)).alloc (Obj.cells #[Value.int IntKind.i64 0,Value.int IntKind.i64 0,Value.string { data:=#[] }] 140)).heap[w.heap.size]? =W (J #[U s,V I a] 143 (0,0)):=aa _ (af w _);have r:((w.alloc (Obj.cells #[Value.string s,Value.int IntKind.i64 a] 143)).alloc (Obj.cells #[Value.int IntKind.i64 0,Value.int IntKind.i64 0,Value.string { data:=#[] }] 140)).heap[w.heap.size+1]? =W (J #[Value.int IntKind.i64 0,Value.int IntKind.i64 0,Value.string { data:=#[] }] 140 (0,0)):=ah _ _ _ (by simp);have d:Below w.heap.size w ((w.alloc (Obj.cells #[Value.string s,Value.int IntKind.i64 a] 143)).alloc (Obj.cells #[Value.int IntKind.i64 0,Value.int IntKind.i64 0,Value.string { data:=#[] }] 140)):=((ζ _ _).alloc (η _) _).alloc (by simp) _
 go_upto_region 2 with (fail)
 generalize ((w.alloc (Obj.cells #[Value.string s,Value.int IntKind.i64 a] 143)).alloc (Obj.cells #[Value.int IntKind.i64 0,Value.int IntKind.i64 0,Value.string { data:=#[] }] 140))=b at g r d ⊢;have P:=zF g 0 rfl;have N:=zF g 1 rfl;have L:=lt_of_heap g;obtain⟨R,E,f⟩:=zx3 g r d;have av:IntKind.i64.wrap ((s.size:Int) - (t1.size:Int))=(s.size:Int) - (t1.size:Int):=zU _ (by omega);clear g r d
 go_cut [5]from 10 (λS wx=>S=Z (W ⟨b.heap.size,0,O⟩)/\wx=(b.alloc (Obj.cells #[Value.int IntKind.i64 a,Value.int IntKind.i64 (↑s.size - ↑t1.size),Value.string t2] 140)).drew)
 case first=>
  go_region_held3 (λw'=>w'.cell? ⟨w.heap.size,0,O⟩=W (U s)/\w'.cell? ⟨w.heap.size,1,O⟩=W (V I a)) (go_keep) (first|(go_at_call 104;refine(D _).mono ?_;rintro e ao ⟨rfl,rfl⟩))
  all_goals go_wp2_with fail
  all_goals go_meet
  all_goals exact⟨rfl,rfl⟩
 case rest=>
  obtain⟨rfl,rfl⟩:=hcut;have j:(b.alloc (Obj.cells #[Value.int IntKind.i64 a,Value.int IntKind.i64 (↑s.size - ↑t1.size),Value.string t2] 140)).drew.heap[b.heap.size]? =W (J #[Value.int IntKind.i64 a,Value.int IntKind.i64 (↑s.size - ↑t1.size),Value.string t2] 140 (0,0)):=af _ _;have c:(b.alloc (Obj.cells #[Value.int IntKind.i64 a,Value.int IntKind.i64 (↑s.size - ↑t1.size),Value.string t2] 140)).drew.heap[w.heap.size+1]? =W (J #[Value.int IntKind.i64 0,Value.int IntKind.i64 0,Value.string { data:=#[] }] 140 (0,0)):=aa (w:=b) _ E.out;have d:Below w.heap.size w (b.alloc (Obj.cells #[Value.int IntKind.i64 a,Value.int IntKind.i64 (↑s.size - ↑t1.size),Value.string t2] 140)).drew:=(f.out.alloc f.out.size _).drew;generalize (b.alloc (Obj.cells #[Value.int IntKind.i64 a,Value.int IntKind.i64 (↑s.size - ↑t1.size),Value.string t2] 140)).drew=y at j c d ⊢;generalize b.heap.size=C at j ⊢;clear R E f P N L;have a2:=zF j 0 rfl;have ab:=zF j 1 rfl;have a4:=zF j 2 rfl;have al:=zF c 0 rfl;have T:=zF c 1 rfl;have a3:=zF c 2 rfl;have a1:=ag c 0;have ad:=ag c 1;have ac:=ag c 2;obtain⟨z,f⟩:=zx2 c d;clear c d;have A:(⟨a,↑s.size - ↑t1.size,t2.data.toList⟩:Ln.Line)=Ln.lineOf a s.data.toList:=by
   unfold Ln.lineOf;rw[M,<-m,ap,ap]
  have p:=zD A;clear A;rcases qi t1 s m with ⟨G,l⟩|⟨G,k,x,l⟩|⟨G,k,x,l⟩
  ·obtain rfl:q=false:=o.symm.trans l
   go_upto_region 3 with (fail)
   go_region
   go_wp2_with fail
   exact bodyPost_ret (fQ _ _ _ _ _ _ _ (nk y _ _ _ _ _ _ _ _ z.out) rfl rfl) rfl ⟨⟨_,_,_,rfl,p.out⟩,(((f.out.setCell (Nat.le_succ _) _).setCell (Nat.le_succ _) _).setCell (Nat.le_succ _) _).drew⟩
  ·obtain rfl:q=false:=o.symm.trans l
   go_upto_region 3 with (fail)
   go_region
   go_wp2_with fail
   exact bodyPost_ret (fQ _ _ _ _ _ _ _ (nk y _ _ _ _ _ _ _ _ z.out) rfl rfl) rfl ⟨⟨_,_,_,by rw[show (((t1[0]'k).toNat:Int) != 35)=false from by show (!((t1[0]'k).toNat:Int)==35)=false;rw[x];rfl],p.out⟩,(((f.out.setCell (Nat.le_succ _) _).setCell (Nat.le_succ _) _).setCell (Nat.le_succ _) _).drew⟩
  ·obtain rfl:q=true:=o.symm.trans l
   go_upto_region 3 with (fail)
   go_region
   go_wp2_with fail
   exact bodyPost_ret (fQ _ _ _ _ _ _ _ (nk y _ _ _ _ _ _ _ _ z.out) rfl rfl) rfl ⟨⟨_,_,_,by rw[show (((t1[0]'k).toNat:Int) != 35)=true from by show (!((t1[0]'k).toNat:Int)==35)=true;rw[x];rfl],p.out⟩,(((f.out.setCell (Nat.le_succ _) _).setCell (Nat.le_succ _) _).setCell (Nat.le_succ _) _).drew⟩
end
theorem gG{P:Program}{w:World}{a:Addr}(s:Tp.B)(m:Mode):(store a (xR s) m).run P w=stored P w a (xR s) m:=run_store P w a _ m rfl
attribute [go_sem] gG
theorem aF{c:Func}(k:c.results=#[.cell 2 305,.tmp 3])(w a:World)(b:Nat)(s:ByteArray)(p d:Nat)(t:Tp.Tk)(tmps:Array Value)
(g:a.heap[w.heap.size]? =W (J #[V I 0,U ⟨#[]⟩,V I 0] 305 (0,0)))(l:yb a b s p d)(j:Far (·=b) w a)(q:b < w.heap.size)
(n:tmps.getD 2 undef=Z (W ⟨w.heap.size,0,O⟩))(o:tmps.getD 3 undef=.nilIface):
 bodyPost π c (yh w b s p d t) .ret { tmps:=tmps,defers:=[] } (((a.setCell ⟨w.heap.size,0,O⟩ (V I t.k)).setCell ⟨w.heap.size,1,O⟩ (xR t.s)).setCell ⟨w.heap.size,2,O⟩ (V I (t.a:Int))):=by
 have m:=nk a w.heap.size 305 _ _ _ (V I t.k) (xR t.s) (V I (t.a:Int)) g;have f:=(((ξ (·=w.heap.size) a).setCell (p:=⟨w.heap.size,0,O⟩) (λ_=>rfl) (V I t.k)).setCell (p:=⟨w.heap.size,1,O⟩) (λ_=>rfl) (xR t.s)).setCell (p:=⟨w.heap.size,2,O⟩) (λ_=>rfl) (V I (t.a:Int));refine bodyPost_ret (nc k _ w.heap.size _ _ _ _ m n) rfl ⟨by rw[o];rfl,f.heap l (by omega),j.step f (λi r e=>by omega)⟩
theorem qM(a:Nat)(s:ByteArray)(p d:Nat)(q:p<=1000000)(F:d<=1000000)(C:s.size<=1000000)(n:yC s p [91]=true)(w:World)(c:yb w a s p d):
 Calls π 264 #[Z (W ⟨a,0,O⟩)] w (yh w a s (p+1) (d+1) ⟨8,[],p⟩):=by
 have t:=lt_of_heap c;have R:∀o:Obj,(w.alloc o).cell? ⟨a,2,O⟩=W (V I (d:Int)):=λo=>ae (aa o c) 2;have T:∀o:Obj,(w.alloc o).frozen? ⟨a,2,O⟩=false:=λo=>ag (aa o c) 2;have G:IntKind.i64.wrap ((d:Int)+1)=(d:Int)+1:=zU _ (by omega);have g:(w.setCell ⟨a,2,O⟩ (V I ((d:Int)+1))).heap.size=w.heap.size:=by simp[World.setCell]
 have i:yb (((w.setCell ⟨a,2,O⟩ (V I ((d:Int)+1))).alloc (J #[V I 0,U ⟨#[]⟩,V I 0] 305)).alloc (J #[V .u8 91] 5)) a s p (d+1):=aa _ (aa _ (ai c 2 _));have m:(((w.setCell ⟨a,2,O⟩ (V I ((d:Int)+1))).alloc (J #[V I 0,U ⟨#[]⟩,V I 0] 305)).alloc (J #[V .u8 91] 5)).heap[w.heap.size]? =W (J #[V I 0,U ⟨#[]⟩,V I 0] 305 (0,0)):=aa _ (ah _ _ _ g.symm);have r:Far (·=a) w (((w.setCell ⟨a,2,O⟩ (V I ((d:Int)+1))).alloc (J #[V I 0,U ⟨#[]⟩,V I 0] 305)).alloc (J #[V .u8 91] 5)):=(((ξ (·=a) w).setCell (p:=⟨a,2,O⟩) (λ_=>rfl) _).alloc _).alloc _;have f:=cO a s p (d+1) p 0 (by omega) q C [91] (w.heap.size+1) 1 rfl (by omega) _ i (dI ((w.setCell ⟨a,2,O⟩ (V I ((d:Int)+1))).alloc (J #[V I 0,U ⟨#[]⟩,V I 0] 305)) [91] 5 _ (by simp[g]));rw[n]at f;have l:=cB 8 a s p (d+1) q _ i;obtain⟨y,D,u,v⟩:=zx4 f l m r;clear c i f l m r n g
 go_enter func264,ntmps264
 go_wp2_with fail
 refine y.out.mono ?_;rintro e M ⟨rfl,rfl⟩
 go_wp2_with fail
 refine D.out.mono ?_;rintro e E ⟨rfl,k,j⟩;unfold tkV;have b:=j.heap u.out (by omega);have S:=zF b 0 rfl;have N:=zF b 1 rfl;have H:=zF b 2 rfl;have L:=ag b 0;have X:=ag b 1;have P:=ag b 2;obtain⟨A,x⟩:=zx2 b k;have z:=zD (v.out.trans j);clear b k j
 go_wp2_with fail
 exact aF results264 w E a s _ _ ⟨8,[],p⟩ _ A.out x.out z.out t rfl rfl
theorem qN(a:Nat)(s:ByteArray)(p d:Nat)(q:p<=1000000)(F:d<=1000000)(C:s.size<=1000000)(n:yC s p [91]=false)(w:World)(c:yb w a s p d):
 Calls π 264 #[Z (W ⟨a,0,O⟩)] w (yh w a s (p+1) (d+1) ⟨10,[],p⟩):=by
 have t:=lt_of_heap c;have R:∀o:Obj,(w.alloc o).cell? ⟨a,2,O⟩=W (V I (d:Int)):=λo=>ae (aa o c) 2;have T:∀o:Obj,(w.alloc o).frozen? ⟨a,2,O⟩=false:=λo=>ag (aa o c) 2;have G:IntKind.i64.wrap ((d:Int)+1)=(d:Int)+1:=zU _ (by omega);have g:(w.setCell ⟨a,2,O⟩ (V I ((d:Int)+1))).heap.size=w.heap.size:=by simp[World.setCell]
 have i:yb (((w.setCell ⟨a,2,O⟩ (V I ((d:Int)+1))).alloc (J #[V I 0,U ⟨#[]⟩,V I 0] 305)).alloc (J #[V .u8 91] 5)) a s p (d+1):=aa _ (aa _ (ai c 2 _));have m:(((w.setCell ⟨a,2,O⟩ (V I ((d:Int)+1))).alloc (J #[V I 0,U ⟨#[]⟩,V I 0] 305)).alloc (J #[V .u8 91] 5)).heap[w.heap.size]? =W (J #[V I 0,U ⟨#[]⟩,V I 0] 305 (0,0)):=aa _ (ah _ _ _ g.symm);have r:Far (·=a) w (((w.setCell ⟨a,2,O⟩ (V I ((d:Int)+1))).alloc (J #[V I 0,U ⟨#[]⟩,V I 0] 305)).alloc (J #[V .u8 91] 5)):=(((ξ (·=a) w).setCell (p:=⟨a,2,O⟩) (λ_=>rfl) _).alloc _).alloc _;have f:=cO a s p (d+1) p 0 (by omega) q C [91] (w.heap.size+1) 1 rfl (by omega) _ i (dI ((w.setCell ⟨a,2,O⟩ (V I ((d:Int)+1))).alloc (J #[V I 0,U ⟨#[]⟩,V I 0] 305)) [91] 5 _ (by simp[g]));rw[n]at f;have l:=cB 10 a s p (d+1) q _ i;obtain⟨y,D,u,v⟩:=zx4 f l m r;clear c i f l m r n g
 go_enter func264,ntmps264
 go_wp2_with fail
 refine y.out.mono ?_;rintro e M ⟨rfl,rfl⟩
 go_wp2_with fail
 refine D.out.mono ?_;rintro e E ⟨rfl,k,j⟩;unfold tkV;have b:=j.heap u.out (by omega);have S:=zF b 0 rfl;have N:=zF b 1 rfl;have H:=zF b 2 rfl;have L:=ag b 0;have X:=ag b 1;have P:=ag b 2;obtain⟨A,x⟩:=zx2 b k;have z:=zD (v.out.trans j);clear b k j
 go_wp2_with fail
 exact aF results264 w E a s _ _ ⟨10,[],p⟩ _ A.out x.out z.out t rfl rfl
theorem ul(a:Nat)(s:ByteArray)(p:Nat)(R:p<=900000)(C:s.size<=1000000)(n:Tp.isB (s.data.toList.drop (p+1))=true)(w:World)(g:yb w a s p 0):
 Calls π 262 #[Z (W ⟨a,0,O⟩)] w (yh w a s (p+1) 0 ⟨5,[],p⟩):=by
 have o:=lt_of_heap g;have f:yb (w.alloc (J #[V I 0,U ⟨#[]⟩,V I 0] 305)) a s p 0:=aa _ g;have m:(w.alloc (J #[V I 0,U ⟨#[]⟩,V I 0] 305)).heap[w.heap.size]? =W (J #[V I 0,U ⟨#[]⟩,V I 0] 305):=af w _;have l:Far (·=a) w (w.alloc (J #[V I 0,U ⟨#[]⟩,V I 0] 305)):=(ξ _ w).alloc _;have d:=dk a s p 0 (p+1) 1 (by omega) (by omega) C _ f;rw[n]at d;obtain⟨y,q,u,v⟩:=zx4 d f m l;clear g f d m l n
 go_enter func262,ntmps262
 go_wp2_with fail
 refine y.out.mono ?_;rintro e L ⟨rfl,c⟩;have i:=q.out.below c (by simp;omega);have r:=zD ((c.block _ (by simp)).trans u.out);have t:=zD (v.out.below c);have D:=zD (cB 5 a s p 0 (by omega) _ i);have E:=c.size;rw[show (w.alloc (J #[V I 0,U ⟨#[]⟩,V I 0] 305)).heap.size=w.heap.size+1 by simp]at E;have P:=zF i 2 rfl;clear i c
 go_wp2_with fail
 refine D.out.mono ?_;rintro e F ⟨rfl,k,j⟩;unfold tkV;have b:=j.heap r.out (by omega);have S:=zF b 0 rfl;have M:=zF b 1 rfl;have G:=zF b 2 rfl;have H:=ag b 0;have T:=ag b 1;have N:=ag b 2;obtain⟨A,x⟩:=zx2 b k;have z:=zD (t.out.trans j);clear b k j
 go_wp2_with fail
 exact aF results262 w F a s _ _ ⟨5,[],p⟩ _ A.out x.out z.out o rfl rfl
theorem sA(a:Nat)(s:ByteArray)(p d:Nat)(R:p<=900000)(D:s.size<=1000000)(n:Tp.closed d (s.data.toList.drop (p+1))=true)(w:World)(i:yb w a s p d):
 Calls π 263 #[Z (W ⟨a,0,O⟩)] w (yh w a s (p+1) d ⟨6,[],p⟩):=by
 have q:=lt_of_heap i;have g:yb (w.alloc (J #[V I 0,U ⟨#[]⟩,V I 0] 305)) a s p d:=aa _ i;have m:(w.alloc (J #[V I 0,U ⟨#[]⟩,V I 0] 305)).heap[w.heap.size]? =W (J #[V I 0,U ⟨#[]⟩,V I 0] 305):=af w _;have l:Far (·=a) w (w.alloc (J #[V I 0,U ⟨#[]⟩,V I 0] 305)):=(ξ _ w).alloc _;have f:=bT a s p d (p+1) 1 (by omega) (by omega) D _ g;rw[n]at f;obtain⟨z,r,v,x⟩:=zx4 f g m l;clear i g f m l n
 go_enter func263,ntmps263
 go_wp2_with fail
 refine z.out.mono ?_;rintro e M ⟨rfl,c⟩;have o:=r.out.below c (by simp;omega);have t:=zD ((c.block _ (by simp)).trans v.out);have u:=zD (x.out.below c);have E:=zD (cB 6 a s p d (by omega) _ o);have F:=c.size;rw[show (w.alloc (J #[V I 0,U ⟨#[]⟩,V I 0] 305)).heap.size=w.heap.size+1 by simp]at F;clear o c
 go_wp2_with fail
 refine E.out.mono ?_;rintro e G ⟨rfl,k,j⟩;unfold tkV;have b:=j.heap t.out (by omega);have S:=zF b 0 rfl;have N:=zF b 1 rfl;have H:=zF b 2 rfl;have L:=ag b 0;have T:=ag b 1;have P:=ag b 2;obtain⟨C,y⟩:=zx2 b k;have A:=zD (u.out.trans j);clear b k j
 go_wp2_with fail
 exact aF results263 w G a s _ _ ⟨6,[],p⟩ _ C.out y.out A.out q rfl rfl
theorem jf:Maps.Keyed π 5:=Maps.int_keyed underlying5
def Ai:List (Value × Value):=[(V .u8 44,V I 7),(V .u8 93,V I 9),(V .u8 125,V I 11)]
theorem rp(w:World):∃a,∃b c:World,(Instr.mapUpdate 452 (.map (W w.heap.size)) (.int .u8 44) (.int I 7)).run π (w.alloc (.map #[] 0))=.ok () b/\(Instr.mapUpdate 452 (.map (W w.heap.size)) (.int .u8 93) (.int I 9)).run π b=.ok () c/\(Instr.mapUpdate 452 (.map (W w.heap.size)) (.int .u8 125) (.int I 11)).run π c=.ok () a/\xW π 5 a w.heap.size Ai/\Below w.heap.size w a:=by
 have p:xW π 5 (w.alloc (.map #[] 0)) w.heap.size []:=aL w;obtain⟨b,f,n,g⟩:=p.put jf underlying452 (.int .u8 44) (.int I 7) (l:=.int .u8 44) (by kernel_rfl) (by simp);obtain⟨c,o,k,d⟩:=n.put jf underlying452 (.int .u8 93) (.int I 9) (l:=.int .u8 93) (by kernel_rfl) (by simp);obtain⟨a,j,q,m⟩:=k.put jf underlying452 (.int .u8 125) (.int I 11) (l:=.int .u8 125) (by kernel_rfl) (by simp);exact⟨a,b,c,f,o,j,q,(((ξ (·=w.heap.size) w).alloc _).step (D':=(·=w.heap.size)) (g.trans (d.trans m)) (λi r e=>e)).to_below (η _) (λi r e=>by omega)⟩
theorem kJ(c:Nat)(s:ByteArray)(p d:Nat)(a1:p<=900000)(X:d<=1000000)(a4:s.size<=1000000)(j:s.data.toList[p]? =W 44)(w:World)(k:yb w c s p (d+1)):
 Calls π 265 #[.pointer (W ⟨c,0,O⟩)] w (yh w c s (p+1) (d+1) ⟨7,[],p⟩):=by
 have z:=lt_of_heap k;have R:p < s.size:=by
  rw[<-ap];exact(zM.1 j).1
 have y:=λa=>run_index_string (P:=π) a 9 s I (p:Int) underlying9;have x:(s[p]'R).toNat=44:=by
  have:=(zM.1 j).2;exact congrArg UInt8.toNat this
 simp only[show (0:Int)<=(p:Int)/\(p:Int) < (s.size:Int)from ⟨by omega,by omega⟩,dif_pos,Int.toNat_natCast,and_self,x]at y;obtain⟨a,ao,a6,S,N,A,i,g⟩:=rp (w.alloc (J #[.int I 0,.string ⟨#[]⟩,.int I 0] 305));rw[show (w.alloc (J #[.int I 0,.string ⟨#[]⟩,.int I 0] 305)).heap.size=w.heap.size+1 by simp]at S N A i g;have v:yb a c s p (d+1):=(g.block _ (by omega)).trans (aa _ k);have u:a.heap[w.heap.size]? =W (J #[.int I 0,.string ⟨#[]⟩,.int I 0] 305):=(g.block _ (by omega)).trans (af w _);have t:Far (·=c) w a:=((ξ _ w).alloc _).below (by rw[show (w.alloc (J #[.int I 0,.string ⟨#[]⟩,.int I 0] 305)).heap.size=w.heap.size+1 by simp];exact g);have a3:∀n,(Instr.lookup 452 (.map (W (w.heap.size+1))) (.int .u8 44) false).run π (a.drewN n)=.ok (.int I 7) (a.drewN n):=λn=>(show xW π 5 (a.drewN n) _ Ai from i).look_in jf underlying452 (zeroValue3 _) (.int .u8 44) (l:=.int .u8 44) (by kernel_rfl) false (.int I 7) (by simp[Ai]) (by simp[Ai]);obtain⟨f,r,F⟩:=zx3 v u t;have ad:=@run_makeMap π;clear k v u t i g j x
 go_enter func265,ntmps265
 go_wp2_with fail
 have be:=zF f.out 0 rfl;have av:=zF f.out 1 rfl;have a0:=zF f.out 2 rfl;have a9:=ag f.out 2;have bb:¬(((d+1:Nat)):Int)=0:=by omega
 have bk:IntKind.i64.wrap ((((d+1:Nat)):Int) - 1)=(d:Int):=by rw[show (((d+1:Nat)):Int) - 1=(d:Int)by omega];exact zU _ (by omega)
 generalize ((d+1:Nat):Int)=D at *
 go_quiet (fail)
 have E:=zD (F.out.drewN nq);have o:((a.drewN nq).heap[w.heap.size]? =W (J #[.int I 0,.string ⟨#[]⟩,.int I 0] 305)):=r.out;have C:=zD o;clear o;have M:=zD (cB 7 c s p (d+1) (by omega) (a.drewN nq) (f.out));have a5:=(lt_of_heap r.out)
 go_wp2_with fail
 refine M.out.mono ?_;rintro e T ⟨rfl,q,m⟩;unfold tkV;have b:=m.heap C.out (by omega);have a2:=zF b 0 rfl;have al:=zF b 1 rfl;have ab:=zF b 2 rfl;have ac:=ag b 0;have ba:=ag b 1;have an:=ag b 2;obtain⟨L,G⟩:=zx2 b q;have H:=zD (E.out.trans m);clear b q m
 go_wp2_with fail
 exact aF results265 w T c s _ _ ⟨7,[],p⟩ _ L.out G.out H.out z rfl rfl
theorem kK(b:Nat)(s:ByteArray)(p d:Nat)(a1:p<=900000)(X:d<=1000000)(a4:s.size<=1000000)(j:s.data.toList[p]? =W 93)(w:World)(k:yb w b s p (d+1)):
 Calls π 265 #[.pointer (W ⟨b,0,O⟩)] w (yh w b s (p+1) (d) ⟨9,[],p⟩):=by
 have z:=lt_of_heap k;have R:p < s.size:=by
  rw[<-ap];exact(zM.1 j).1
 have y:=λa=>run_index_string (P:=π) a 9 s I (p:Int) underlying9;have x:(s[p]'R).toNat=93:=by
  have:=(zM.1 j).2;exact congrArg UInt8.toNat this
 simp only[show (0:Int)<=(p:Int)/\(p:Int) < (s.size:Int)from ⟨by omega,by omega⟩,dif_pos,Int.toNat_natCast,and_self,x]at y;obtain⟨a,ao,a6,S,N,A,i,g⟩:=rp (w.alloc (J #[.int I 0,.string ⟨#[]⟩,.int I 0] 305));rw[show (w.alloc (J #[.int I 0,.string ⟨#[]⟩,.int I 0] 305)).heap.size=w.heap.size+1 by simp]at S N A i g;have v:yb a b s p (d+1):=(g.block _ (by omega)).trans (aa _ k);have u:a.heap[w.heap.size]? =W (J #[.int I 0,.string ⟨#[]⟩,.int I 0] 305):=(g.block _ (by omega)).trans (af w _);have t:Far (·=b) w a:=((ξ _ w).alloc _).below (by rw[show (w.alloc (J #[.int I 0,.string ⟨#[]⟩,.int I 0] 305)).heap.size=w.heap.size+1 by simp];exact g);have a3:∀n,(Instr.lookup 452 (.map (W (w.heap.size+1))) (.int .u8 93) false).run π (a.drewN n)=.ok (.int I 9) (a.drewN n):=λn=>(show xW π 5 (a.drewN n) _ Ai from i).look_in jf underlying452 (zeroValue3 _) (.int .u8 93) (l:=.int .u8 93) (by kernel_rfl) false (.int I 9) (by simp[Ai]) (by simp[Ai]);obtain⟨f,r,F⟩:=zx3 v u t;have ad:=@run_makeMap π;clear k v u t i g j x
 go_enter func265,ntmps265
 go_wp2_with fail
 have be:=zF f.out 0 rfl;have av:=zF f.out 1 rfl;have a0:=zF f.out 2 rfl;have a9:=ag f.out 2;have bb:¬(((d+1:Nat)):Int)=0:=by omega
 have bk:IntKind.i64.wrap ((((d+1:Nat)):Int) - 1)=(d:Int):=by rw[show (((d+1:Nat)):Int) - 1=(d:Int)by omega];exact zU _ (by omega)
 generalize ((d+1:Nat):Int)=D at *
 go_quiet (fail)
 have E:=zD ((F.out.drewN nq).setCell (p:=⟨b,2,O⟩) (λ_=>rfl) (.int I (d:Int)));have o:(((a.drewN nq).setCell ⟨b,2,O⟩ (.int I (d:Int))).heap[w.heap.size]? =W (J #[.int I 0,.string ⟨#[]⟩,.int I 0] 305)):=(Below.heap_setCell _ _ _ _ (by show w.heap.size≠b;omega)).trans r.out;have C:=zD o;clear o;have M:=zD (cB 9 b s p (d) (by omega) ((a.drewN nq).setCell ⟨b,2,O⟩ (.int I (d:Int))) (ai (w:=a.drewN nq) f.out 2 _));have a5:=(lt_of_heap r.out)
 go_wp2_with fail
 refine M.out.mono ?_;rintro e T ⟨rfl,q,m⟩;unfold tkV;have c:=m.heap C.out (by omega);have a2:=zF c 0 rfl;have al:=zF c 1 rfl;have ab:=zF c 2 rfl;have ac:=ag c 0;have ba:=ag c 1;have an:=ag c 2;obtain⟨L,G⟩:=zx2 c q;have H:=zD (E.out.trans m);clear c q m
 go_wp2_with fail
 exact aF results265 w T b s _ _ ⟨9,[],p⟩ _ L.out G.out H.out z rfl rfl
theorem pi(b:Nat)(s:ByteArray)(p d:Nat)(a1:p<=900000)(X:d<=1000000)(a4:s.size<=1000000)(j:s.data.toList[p]? =W 125)(w:World)(k:yb w b s p (d+1)):
 Calls π 265 #[.pointer (W ⟨b,0,O⟩)] w (yh w b s (p+1) (d) ⟨11,[],p⟩):=by
 have z:=lt_of_heap k;have R:p < s.size:=by
  rw[<-ap];exact(zM.1 j).1
 have y:=λa=>run_index_string (P:=π) a 9 s I (p:Int) underlying9;have x:(s[p]'R).toNat=125:=by
  have:=(zM.1 j).2;exact congrArg UInt8.toNat this
 simp only[show (0:Int)<=(p:Int)/\(p:Int) < (s.size:Int)from ⟨by omega,by omega⟩,dif_pos,Int.toNat_natCast,and_self,x]at y;obtain⟨a,ao,a6,S,N,A,i,g⟩:=rp (w.alloc (J #[.int I 0,.string ⟨#[]⟩,.int I 0] 305));rw[show (w.alloc (J #[.int I 0,.string ⟨#[]⟩,.int I 0] 305)).heap.size=w.heap.size+1 by simp]at S N A i g;have v:yb a b s p (d+1):=(g.block _ (by omega)).trans (aa _ k);have u:a.heap[w.heap.size]? =W (J #[.int I 0,.string ⟨#[]⟩,.int I 0] 305):=(g.block _ (by omega)).trans (af w _);have t:Far (·=b) w a:=((ξ _ w).alloc _).below (by rw[show (w.alloc (J #[.int I 0,.string ⟨#[]⟩,.int I 0] 305)).heap.size=w.heap.size+1 by simp];exact g);have a3:∀n,(Instr.lookup 452 (.map (W (w.heap.size+1))) (.int .u8 125) false).run π (a.drewN n)=.ok (.int I 11) (a.drewN n):=λn=>(show xW π 5 (a.drewN n) _ Ai from i).look_in jf underlying452 (zeroValue3 _) (.int .u8 125) (l:=.int .u8 125) (by kernel_rfl) false (.int I 11) (by simp[Ai]) (by simp[Ai]);obtain⟨f,r,F⟩:=zx3 v u t;have ad:=@run_makeMap π;clear k v u t i g j x
 go_enter func265,ntmps265
 go_wp2_with fail
 have be:=zF f.out 0 rfl;have av:=zF f.out 1 rfl;have a0:=zF f.out 2 rfl;have a9:=ag f.out 2;have bb:¬(((d+1:Nat)):Int)=0:=by omega
 have bk:IntKind.i64.wrap ((((d+1:Nat)):Int) - 1)=(d:Int):=by rw[show (((d+1:Nat)):Int) - 1=(d:Int)by omega];exact zU _ (by omega)
 generalize ((d+1:Nat):Int)=D at *
 go_quiet (fail)
 have E:=zD ((F.out.drewN nq).setCell (p:=⟨b,2,O⟩) (λ_=>rfl) (.int I (d:Int)));have o:(((a.drewN nq).setCell ⟨b,2,O⟩ (.int I (d:Int))).heap[w.heap.size]? =W (J #[.int I 0,.string ⟨#[]⟩,.int I 0] 305)):=(Below.heap_setCell _ _ _ _ (by show w.heap.size≠b;omega)).trans r.out;have C:=zD o;clear o;have M:=zD (cB 11 b s p (d) (by omega) ((a.drewN nq).setCell ⟨b,2,O⟩ (.int I (d:Int))) (ai (w:=a.drewN nq) f.out 2 _));have a5:=(lt_of_heap r.out)
 go_wp2_with fail
 refine M.out.mono ?_;rintro e T ⟨rfl,q,m⟩;unfold tkV;have c:=m.heap C.out (by omega);have a2:=zF c 0 rfl;have al:=zF c 1 rfl;have ab:=zF c 2 rfl;have ac:=ag c 0;have ba:=ag c 1;have an:=ag c 2;obtain⟨L,G⟩:=zx2 c q;have H:=zD (E.out.trans m);clear c q m
 go_wp2_with fail
 exact aF results265 w T b s _ _ ⟨11,[],p⟩ _ L.out G.out H.out z rfl rfl
def rdF(a b:Nat):Value:=.iface 360 (φ (.func a) #[Z (W ⟨b,0,O⟩)] #[])
def yG(a:Nat):List (Value × Value):=[(V .u8 34,rdF 260 a),(V .u8 39,rdF 260 a),(V .u8 38,rdF 261 a),(V .u8 42,rdF 261 a),(V .u8 45,rdF 262 a),(V .u8 58,rdF 263 a),(V .u8 91,rdF 264 a),(V .u8 123,rdF 264 a),(V .u8 44,rdF 265 a),(V .u8 93,rdF 265 a),(V .u8 125,rdF 265 a)]
theorem fB(a:Nat)(w:World):Calls π 233 #[.pointer (W ⟨a,0,O⟩)] w λe w'=>e=ρ (.map (W w.heap.size))/\xW π 5 w' w.heap.size (yG a)/\Below w.heap.size w w':=by
 have S:=@run_makeMap π;have d:xW π 5 (w.alloc (.map #[] 0)) w.heap.size []:=aL w;obtain⟨M,a1,n,j⟩:=d.put jf underlying404 (.int .u8 34) (.iface 360 (φ (.func 260) #[.pointer (W ⟨a,0,O⟩)] #[])) (l:=.int .u8 34) (by kernel_rfl) (by simp);obtain⟨a5,an,c,x⟩:=n.put jf underlying404 (.int .u8 39) (.iface 360 (φ (.func 260) #[.pointer (W ⟨a,0,O⟩)] #[])) (l:=.int .u8 39) (by kernel_rfl) (by simp);obtain⟨R,a2,t,C⟩:=c.put jf underlying404 (.int .u8 38) (.iface 360 (φ (.func 261) #[.pointer (W ⟨a,0,O⟩)] #[])) (l:=.int .u8 38) (by kernel_rfl) (by simp);obtain⟨L,a3,m,A⟩:=t.put jf underlying404 (.int .u8 42) (.iface 360 (φ (.func 261) #[.pointer (W ⟨a,0,O⟩)] #[])) (l:=.int .u8 42) (by kernel_rfl) (by simp);obtain⟨w5,N,p,s⟩:=m.put jf underlying404 (.int .u8 45) (.iface 360 (φ (.func 262) #[.pointer (W ⟨a,0,O⟩)] #[])) (l:=.int .u8 45) (by kernel_rfl) (by simp);obtain⟨X,ad,y,u⟩:=p.put jf underlying404 (.int .u8 58) (.iface 360 (φ (.func 263) #[.pointer (W ⟨a,0,O⟩)] #[])) (l:=.int .u8 58) (by kernel_rfl) (by simp);obtain⟨ac,T,o,g⟩:=y.put jf underlying404 (.int .u8 91) (.iface 360 (φ (.func 264) #[.pointer (W ⟨a,0,O⟩)] #[])) (l:=.int .u8 91) (by kernel_rfl) (by simp);obtain⟨a0,av,r,b⟩:=o.put jf underlying404 (.int .u8 123) (.iface 360 (φ (.func 264) #[.pointer (W ⟨a,0,O⟩)] #[])) (l:=.int .u8 123) (by kernel_rfl) (by simp);obtain⟨a4,ab,z,D⟩:=r.put jf underlying404 (.int .u8 44) (.iface 360 (φ (.func 265) #[.pointer (W ⟨a,0,O⟩)] #[])) (l:=.int .u8 44) (by kernel_rfl) (by simp);obtain⟨al,ao,k,f⟩:=z.put jf underlying404 (.int .u8 93) (.iface 360 (φ (.func 265) #[.pointer (W ⟨a,0,O⟩)] #[])) (l:=.int .u8 93) (by kernel_rfl) (by simp);obtain⟨E,P,q,v⟩:=k.put jf underlying404 (.int .u8 125) (.iface 360 (φ (.func 265) #[.pointer (W ⟨a,0,O⟩)] #[])) (l:=.int .u8 125) (by kernel_rfl) (by simp);have G:Below w.heap.size w E:=(((ξ (·=w.heap.size) w).alloc _).step (D':=(·=w.heap.size)) ((((((((((j.trans x).trans C).trans A).trans s).trans u).trans g).trans b).trans D).trans f).trans v) (λi H e=>e)).to_below (η _) (λi H e=>by omega);clear d n c t m p y o r z k j x C A s u g b D f v;have F:=zD q;clear q
 go_enter func233,ntmps233
 go_wp2
 go_ret
 exact⟨rfl,F.out,G⟩
theorem xF(a:UInt8):keyOf π 5 (.int .u8 (a.toNat:Int))=W (.int .u8 (a.toNat:Int)):=Maps.keyOf_int_mk underlying5 (by have:=a.toNat_lt;unfold Lit.wf;simp[IntKind.min,IntKind.max,IntKind.bits,IntKind.signed];omega)
theorem pG(w:World):(zeroValue 20).run π w=.ok .nilIface w:=by kernel_rfl
theorem bV(g:Nat)(i:UInt8)(a:Nat)(s:ByteArray)(p d S N:Nat)(t:Tp.Tk)(bw:s.size<=1000000)(z:s.data.toList[p]? =W i)(m:(.int .u8 (i.toNat:Int),rdF g a)∈yG a)(bm:∀args w,(callFunc g args).run π w=.ok (.enter g args) w)
(w:World)(u:yb w a s p d)(T:∀b,yb b a s p d->Below w.heap.size w b->Calls π g #[.pointer (W ⟨a,0,O⟩)] b (yh b a s S N t)):
 Calls π 198 #[.pointer (W ⟨a,0,O⟩)] w (yh w a s S N t):=by
 have ao:p < s.size:=by rw[<-ap];exact(zM.1 z).1
 have a9:∀b,(Instr.index 9 (.string s) (.int I (p:Int))).run π b=.ok (.int .u8 (i.toNat:Int)) b:=by
  intro b;rw[vQ s (p:Int) p rfl ao b];unfold Ln.nat
  rw[zY,z];rfl
 have D:∀q∈yG a,q.1=.int .u8 (i.toNat:Int)->q.2=rdF g a:=by
  intro q v y;revert m
  unfold yG at v ⊢;intro m;simp only[List.mem_cons,List.not_mem_nil,or_false,Prod.mk.injEq]at m v;rcases v with rfl|rfl|rfl|rfl|rfl|rfl|rfl|rfl|rfl|rfl|rfl<;>simp only at y<;>injection y with _ y<;>rcases m with ⟨c,f⟩|⟨c,f⟩|⟨c,f⟩|⟨c,f⟩|⟨c,f⟩|⟨c,f⟩|⟨c,f⟩|⟨c,f⟩|⟨c,f⟩|⟨c,f⟩|⟨c,f⟩<;>injection c with _ c<;>first|exact f.symm|omega
 have M:∀b B,xW π 5 b B (yG a)->(Instr.lookup 404 (.map (W B)) (.int .u8 (i.toNat:Int)) true).run π b=.ok (.tuple #[rdF g a,.bool true]) b:=
  λb B n=>n.look_in jf underlying404 (pG _) (.int .u8 (i.toNat:Int)) (xF i) true (rdF g a) m D
 have A:=lt_of_heap u;have r:yb (w.alloc (J #[.int I 0,.string ⟨#[]⟩,.int I 0] 305)) a s p d:=aa _ u;have G:(w.alloc (J #[.int I 0,.string ⟨#[]⟩,.int I 0] 305)).heap[w.heap.size]? =W (J #[.int I 0,.string ⟨#[]⟩,.int I 0] 305):=af w _;have F:Below w.heap.size w (w.alloc (J #[.int I 0,.string ⟨#[]⟩,.int I 0] 305)):=(ζ _ w).alloc (η _) _;obtain⟨ba,ad,be,P,an⟩:=zx5 r G F M T;have X:=zF r 0 rfl;have L:=zF r 1 rfl;have a2:=zD u;have bx:∀b,(Instr.typeAssert (.iface 360 (φ (.func g) #[.pointer (W ⟨a,0,O⟩)] #[])) 20 360 false).run π b=.ok (φ (.func g) #[.pointer (W ⟨a,0,O⟩)] #[]) b:=λb=>by kernel_rfl
 clear u r G F M T D m z;unfold rdF at P;generalize ((i.toNat:Nat):Int)=bb at *
 go_enter func198,ntmps198
 go_upto_region 1 with (fail)
 go_region_held3 (λw'=>w'.cell? ⟨a,0,O⟩=W (.string s)/\w'.cell? ⟨a,1,O⟩=W (.int I (p:Int))) (first|(with_reducible exact⟨X,L⟩)|exact⟨(World.cell?_of_block (k.block a (by simp;omega))).trans X,(World.cell?_of_block (k.block a (by simp;omega))).trans L⟩|go_keep) (first|(go_at_call 233;refine(fB a _).mono ?_;rintro e l ⟨rfl,n,k⟩;have a1:=P.out l (w.heap.size+1) (by simpa using n)))
 all_goals (
  have R:Far xO w l:=by first|exact(((ξ xO w).alloc _).drew).below k|exact(((ξ xO w).alloc _).drewN _).below k
  have o:Below w.heap.size w l:=R.to_below (η _) (λ_ _ e=>e);have E:yb l a s p d:=(o.block a A).trans a2.out;have H:l.heap[w.heap.size]? =W (J #[.int I 0,.string ⟨#[]⟩,.int I 0] 305):=(k.block _ (by simp)).trans ad.out;have a3:=zD (an.out l E o);have ab:=zD H;have ac:=zD (Far.of_below o (·=a));clear n k a1 o E H R
  go_wp2_with fail
  refine a3.out.mono ?_;rintro e a4 ⟨rfl,C,x⟩;unfold tkV;have j:=x.heap ab.out (by omega);have bs:=zF j 0 rfl;have bk:=zF j 1 rfl;have a5:=zF j 2 rfl;have a6:=ag j 0;have bD:=ag j 1;have bn:=ag j 2;obtain⟨a0,al⟩:=zx2 j C;have av:=zD (ac.out.trans x);clear j C x
  go_wp2_with fail
  exact aF results198 w a4 a s _ _ t _ a0.out al.out av.out A rfl rfl
)
theorem qP(f:UInt8)(a:Nat)(s:ByteArray)(p d G D:Nat)(t:Tp.Tk)(ba:s.size<=1000000)(o:s.data.toList[p]? =W f)(F:∀q∈yG a,q.1≠.int .u8 (f.toNat:Int))
(w:World)(m:yb w a s p d)(H:∀b,yb b a s p d->Below w.heap.size w b->Calls π 234 #[.pointer (W ⟨a,0,O⟩)] b (yh b a s G D t)):
 Calls π 198 #[.pointer (W ⟨a,0,O⟩)] w (yh w a s G D t):=by
 have T:p < s.size:=by rw[<-ap];exact(zM.1 o).1
 have a1:∀b,(Instr.index 9 (.string s) (.int I (p:Int))).run π b=.ok (.int .u8 (f.toNat:Int)) b:=by
  intro b;rw[vQ s (p:Int) p rfl T b];unfold Ln.nat
  rw[zY,o];rfl
 have C:∀b B,xW π 5 b B (yG a)->(Instr.lookup 404 (.map (W B)) (.int .u8 (f.toNat:Int)) true).run π b=.ok (.tuple #[.nilIface,.bool false]) b:=
  λb B j=>j.look_out jf underlying404 (pG _) (.int .u8 (f.toNat:Int)) (xF f) true F
 have r:=lt_of_heap m;have l:yb (w.alloc (J #[.int I 0,.string ⟨#[]⟩,.int I 0] 305)) a s p d:=aa _ m;have y:(w.alloc (J #[.int I 0,.string ⟨#[]⟩,.int I 0] 305)).heap[w.heap.size]? =W (J #[.int I 0,.string ⟨#[]⟩,.int I 0] 305):=af w _;have x:Below w.heap.size w (w.alloc (J #[.int I 0,.string ⟨#[]⟩,.int I 0] 305)):=(ζ _ w).alloc (η _) _;obtain⟨a2,P,a4,ac,S⟩:=zx5 l y x C H;have L:=zF l 0 rfl;have A:=zF l 1 rfl;have al:=zD m;clear m l y x C H F o;generalize ((f.toNat:Nat):Int)=a3 at *
 go_enter func198,ntmps198
 go_upto_region 1 with (fail)
 go_region_held3 (λw'=>w'.cell? ⟨a,0,O⟩=W (.string s)/\w'.cell? ⟨a,1,O⟩=W (.int I (p:Int))) (first|(with_reducible exact⟨L,A⟩)|exact⟨(World.cell?_of_block (g.block a (by simp;omega))).trans L,(World.cell?_of_block (g.block a (by simp;omega))).trans A⟩|go_keep) (first|(go_at_call 233;refine(fB a _).mono ?_;rintro e i ⟨rfl,j,g⟩;have ad:=ac.out i (w.heap.size+1) (by simpa using j)))
 all_goals (
  have E:Far xO w i:=by first|exact(((ξ xO w).alloc _).drew).below g|exact(((ξ xO w).alloc _).drewN _).below g
  have k:Below w.heap.size w i:=E.to_below (η _) (λ_ _ e=>e);have v:yb i a s p d:=(k.block a r).trans al.out;have z:i.heap[w.heap.size]? =W (J #[.int I 0,.string ⟨#[]⟩,.int I 0] 305):=(g.block _ (by simp)).trans P.out;have an:=zD (S.out i v k);have M:=zD z;have N:=zD (Far.of_below k (·=a));clear j g ad k v z E
  go_wp2_with fail
  refine an.out.mono ?_;rintro e ao ⟨rfl,u,n⟩;unfold tkV;have c:=n.heap M.out (by omega);have a9:=zF c 0 rfl;have a5:=zF c 1 rfl;have av:=zF c 2 rfl;have a0:=ag c 0;have bb:=ag c 1;have a6:=ag c 2;obtain⟨ab,R⟩:=zx2 c u;have X:=zD (N.out.trans n);clear c u n
  go_wp2_with fail
  exact aF results198 w ao a s _ _ t _ ab.out R.out X.out r rfl rfl
)
theorem pw(a:Nat)(s:ByteArray)(p d x u:Nat)(t:Tp.Tk)(ad:p<=900000)(P:s.size<=1000000)(r:Tp.isB (s.data.toList.drop (p+1))=false)(w:World)(k:yb w a s p d)(y:∀c,yb c a s p d->Below w.heap.size w c->Calls π 234 #[Z (W ⟨a,0,O⟩)] c (yh c a s x u t)):
 Calls π 262 #[Z (W ⟨a,0,O⟩)] w (yh w a s x u t):=by
 have z:=lt_of_heap k;have j:yb (w.alloc (J #[V I 0,U ⟨#[]⟩,V I 0] 305)) a s p d:=aa _ k;have q:(w.alloc (J #[V I 0,U ⟨#[]⟩,V I 0] 305)).heap[w.heap.size]? =W (J #[V I 0,U ⟨#[]⟩,V I 0] 305):=af w _;have n:Below w.heap.size w (w.alloc (J #[V I 0,U ⟨#[]⟩,V I 0] 305)):=(ζ _ w).alloc (η _) _;have g:=dk a s p d (p+1) 1 (by omega) (by omega) P _ j;rw[r]at g;obtain⟨L,C,F,o,H⟩:=zx5 g j q n y;clear k j g q n r y
 go_enter func262,ntmps262
 go_wp2_with fail
 refine L.out.mono ?_;rintro e A ⟨rfl,f⟩;have v:=C.out.below f (by simp;omega);have D:=zD ((f.block _ (by simp)).trans F.out);have i:=o.out.trans (f.mono o.out.size);have E:=zD (Far.of_below i (·=a));have R:=zD (H.out A v i);clear v f i
 go_wp2_with fail
 refine R.out.mono ?_;rintro e S ⟨rfl,m,l⟩;unfold tkV;have b:=l.heap D.out (by omega);have al:=zF b 0 rfl;have ab:=zF b 1 rfl;have T:=zF b 2 rfl;have X:=ag b 0;have an:=ag b 1;have ac:=ag b 2;obtain⟨N,G⟩:=zx2 b m;have M:=zD (E.out.trans l);clear b m l
 go_wp2_with fail
 exact aF results262 w S a s _ _ t _ N.out G.out M.out z rfl rfl
theorem bM{B:Nat}{w w':World}(a:Below B w w'):∀n,Below B w (w'.drewN n)
 |0=>a
 |n+1=>(bM a n).drew
def zq(x:Nat):Bool:=Aa (x:Int)
theorem qe(a:UInt8):zq a.toNat=Tp.signC a:=by
 unfold zq Aa Tp.signC;rw[Bool.eq_iff_iff];simp
 omega
theorem gT(x:Nat)(a:128<=x):zq x=false:=by
 unfold zq Aa;simp
 omega
theorem nM(s:ByteArray):∀(d a:Nat),s.size<=a+d->Lib.idxFuncFrom zq false s d a=if a+((s.data.toList.drop a).takeWhile Tp.signC).length < s.size then ((a+((s.data.toList.drop a).takeWhile Tp.signC).length:Nat):Int)else -1
 |0,a,h=>by
  rw[List.drop_eq_nil_of_le (by rw[ap];omega)];simp[Lib.idxFuncFrom]
  omega
 |d+1,a,h=>by
  unfold Lib.idxFuncFrom;by_cases b:a < s.size
  ·have f:a < s.data.toList.length:=by rw[ap];exact b
   rw[if_pos b,aX,zW f];generalize s.data.toList[a]=c;by_cases i:c.toNat < 128
   ·rw[Ln.aM c _ i,qe]
    simp only;cases e:Tp.signC c with
    |false=>
     rw[if_pos rfl,List.takeWhile_cons_of_neg (by rw[e];decide)];simp[b]
    |true=>
     rw[if_neg (by decide),List.takeWhile_cons_of_pos e,nM s d (a+1) (by omega)];simp only[zO];rw[show a+1+(List.takeWhile Tp.signC (List.drop (a+1) s.data.toList)).length=a+((List.takeWhile Tp.signC (List.drop (a+1) s.data.toList)).length+1)by omega]
   ·have g:=(Ln.c8 (c::s.data.toList.drop (a+1)) (show 128<=c.toNat by omega)).1
    rw[gT _ g,if_pos rfl,List.takeWhile_cons_of_neg (by rw[<-qe,gT _ (by omega)];decide)];simp[b]
  ·rw[if_neg b,List.drop_eq_nil_of_le (by rw[ap];omega)]
   simp
   omega
theorem pN(s:ByteArray):(Lib.trimLeftF zq s).size=s.size - (s.data.toList.takeWhile Tp.signC).length:=by
 have b:=(List.takeWhile_sublist Tp.signC (l:=s.data.toList)).length_le;rw[ap]at b;unfold Lib.trimLeftF Lib.idxFunc;rw[nM s s.size 0 (by omega),List.drop_zero,Nat.zero_add];by_cases a:(s.data.toList.takeWhile Tp.signC).length < s.size
 ·rw[if_pos a,if_neg (by omega),ByteArray.size_extract]
  simp
 ·rw[if_neg a,if_pos rfl]
  show 0=_;omega
theorem se(args:Array Value)(w:World):(callFunc 243 args).run π w=.ok (.enter 243 args) w:=by kernel_rfl
theorem qd(w:World):PredGrows π 243 #[] zq w:=by
 intro a x c b;refine(jO (x:Int) a).mono ?_;rintro e w' ⟨rfl,rfl⟩;exact⟨rfl,ζ _ _⟩
theorem oU(s:ByteArray)(w:World):Calls π 286 #[U s,φ (.func 243) #[] #[]] w λe w'=>(∃b:ByteArray,e=ρ (U b)/\b.size=s.size - (s.data.toList.takeWhile Tp.signC).length)/\Below w.heap.size w w':=by
 refine(strings_TrimLeftFunc_grows 243 #[] (λa w=>se a w) zq s w (qd w)).mono ?_;rintro e w' ⟨rfl,c⟩;exact⟨⟨_,rfl,pN s⟩,c⟩
section
section
variable {P:Program} {ops:Array Oper} {md:Region.Mode} {Q:Exit->Act->World->Prop} {S:World->Prop} {fuel:Nat} {listed:Array Bool} {a:Act} {w:World}
end
end
theorem aI(a:World)(l:Nat)(o:Obj):Far (·=l) a (a.putObj l o):=⟨rfl,rfl,rfl,by simp,λ_ _ b=>World.putObj_heap_other b⟩
abbrev NS:=Nat->Prop
def y8(a b:NS)(c:Nat):NS:=λk=>¬b k/\(a k\/c<=k)
def yQ(P:Program)(gf:Nat)(lb:Array Value)(m:Nat)(p:Nat)(u:Nat->Array Value->NS->World->Prop)(n r:NS)(q:Prop)(s:Nat->World->Prop)(x:World->Prop)(w:World):Prop:=
 ∀(l:Nat) (d:Nat->NS->World->Prop) (f:NS->World->Prop) (o:NS) (g:World),Below w.heap.size w g->w.heap.size+2<=g.heap.size->(∀k,o k->¬n k/\¬r k)->
  (∀t a b c,d t a b->Far (y8 n a w.heap.size) b c->d t a c)->(∀a b c,f a b->Far (y8 n a w.heap.size) b c->f a c)->
  (∀t a b,d t a b->s t b/\(q->∀k,a k->k < b.heap.size))->
  (∀t,t < p->∀a i v b,d t a b->u t v i b->(∀k,i k->¬a k/\k < b.heap.size)->YieldAt Fence.wide m P l v b λe c=>∃j,(Far a b c/\∀k,j k->a k\/i k\/b.heap.size<=k)/\((e=ρ (β true)/\d (t+1) j c)\/(e=ρ (β false)/\f j c)))->
  d 0 o g->Calls P gf (#[φ (.yield l) #[] #[]]++lb) g λe c=>(∃v,e=ρ v)/\((∃a,d p a c/\x c)\/∃a,f a c)
def AF(d:Prop)(i:NS->World->Prop)(g:Code->NS->World->Prop)(b c:NS)(e:Nat)(f:World):Exit->Act->World->Prop
 | .normal,_,W'=>∃a,i a W'/\Far b f W'/\∀k,a k->(b k\/c k\/e<=k)/\(d->k < W'.heap.size)
 | .ret,_,W'=>∃a,g .ret a W'/\Far b f W'/\∀k,a k->(b k\/c k\/e<=k)/\(d->k < W'.heap.size)
 | .exit id,_,W'=>∃a,g (.exit id) a W'/\Far b f W'/\∀k,a k->(b k\/c k\/e<=k)/\(d->k < W'.heap.size)
 | .goto t,_,W'=>∃a,g (.goto t) a W'/\Far b f W'/\∀k,a k->(b k\/c k\/e<=k)/\(d->k < W'.heap.size)
 | .panic _,_,_=>False
 | .outgrown,_,_=>False
theorem aC{P:Program}{n:Nat}{g:Operand}{ps:Array Tmp}{assign body:Code}{Q:Exit->Act->World->Prop}{a:Act}{w:World}{gf:Nat}{lb:Array Value}{N:Nat}{E:Nat->Array Value->NS->World->Prop}{own rd:NS}{ins:Prop}{Kn:Nat->World->Prop}{Fin:World->Prop}
(hg:a.eval g=φ (.func gf) #[] lb)(eg:∀args w,(callFunc gf args).run P w=.ok (.enter gf args) w)
(hiter:yQ P gf lb (n - 1 - 1) N E own rd ins Kn Fin w)(hown:∀k,own k->k < w.heap.size)(hrd:∀k,rd k->k < w.heap.size)(hps:∀t v G W,E t v G W->v.size=ps.size)
(I:Nat->NS->World->Prop)(Ix:Code->NS->World->Prop)(F0:NS)(hF0:∀k,F0 k->¬own k/\¬rd k/\k≠w.heap.size/\k≠w.heap.size+1/\(ins->k < w.heap.size))(h0:I 0 F0 w)
(hI:∀t F W W',I t F W->Far (y8 own F w.heap.size) W W'->I t F W')(hIx:∀c F W W',Ix c F W->Far (y8 own F w.heap.size) W W'->Ix c F W')
(hKn:∀t F W,I t F W->Kn t W)(hFin:∀W W',Fin W->Far (·=w.heap.size+1) W W'->Fin W')
(hround:∀t F G v W (K:Act→World→Prop),t < N→w.heap.size+1 < W.heap.size→I t F W→E t v G W→(∀k,G k→¬F k∧k≠w.heap.size∧k≠w.heap.size+1∧k < W.heap.size)→(∀k,F k→k≠w.heap.size∧k≠w.heap.size+1∧(ins→k < W.heap.size))→
  (∀a₁ W',Far xO W W'->(∀W'',Far (·=w.heap.size+1) W' W''->(∃L,W''.heap[w.heap.size+1]? =some (.loop L))->W''.heap[w.heap.size]? =some (.deferred (some []))->body.wpIn (Fence.wide.inRound (w.heap.size+1)) (n - 1 - 1) P (AF ins (I (t+1)) Ix F G W.heap.size W'') a₁ W'')->K a₁ W')->
  assign.wpIn (Fence.wide.inRound (w.heap.size+1)) (n - 1 - 1) P (Exit.then K (λ_ _ _=>False)) { tmps:=(ps.zip v).foldl (λs (p,v)=>s.setIfInBounds p v) a.tmps,defers:=[] } W)
(hdone:∀F W,I N F W->Fin W->W.heap[w.heap.size]? =some (.deferred (some []))->(∀k,F k->k≠w.heap.size)->Q .normal { a with defers:={ target:=.collected w.heap.size,args:=#[] }::a.defers } W)
(hstop:∀c F W,Ix c F W->W.heap[w.heap.size]? =some (.deferred (some []))->(∀k,F k->k≠w.heap.size)->c.wpIn Fence.wide n P Q { a with defers:={ target:=.collected w.heap.size,args:=#[] }::a.defers } W):
 (Code.rangeFunc g ps assign body).wpIn Fence.wide n P Q a w:=by
 refine wpIn_rangeFunc ?_;intro fn hfn;obtain⟨rec,hrec⟩:∃rec:LoopState->Option Code->Loop,rec=λst pe=>{ state:=st,pending:=pe,fn,tmps:=a.tmps,params:=ps,assign,body,defers:=w.heap.size }:=⟨_,rfl⟩;obtain⟨W1,hW1⟩:∃W1,(w.alloc (.deferred (some []))).alloc (.loop (rec .ready O))=W1:=⟨_,rfl⟩;have hL1:W1.heap[w.heap.size+1]? =some (.loop (rec .ready O)):=by
  rw[<-hW1];exact ah _ _ _ (by simp)
 have hK1:W1.heap[w.heap.size]? =some (.deferred (some [])):=by
  rw[<-hW1];exact aa _ (af w _)
 have hb1:Below w.heap.size w W1:=by rw[<-hW1];exact((ζ _ w).alloc (η _) _).alloc (by simp) _
 have hz1:w.heap.size+2<=W1.heap.size:=by rw[<-hW1];simp
 have hI1:I 0 F0 W1:=hI 0 F0 w _ h0 ((ξ _ _).below hb1);have new1:∀F (W W':World),(∀k,F k->k≠w.heap.size/\k≠w.heap.size+1)->Far (·=w.heap.size+1) W W'->Far (y8 own F w.heap.size) W W':=λF W W' hF h=>h.mono λi _ e=>⟨λhf=>(hF i hf).2 e,.inr (by omega)⟩;refine⟨w.heap.size+1,[{ target:=.collected w.heap.size,args:=#[] }],W1,{ target:=.fn (.func gf) lb,args:=#[φ (.yield (w.heap.size+1)) #[] #[]] },W1,gf,
  #[φ (.yield (w.heap.size+1)) #[] #[]]++lb,W1,?_,?_,?_,?_,λh=>absurd h (by simp[Fence.wide]),?_⟩
 ·rw[<-hW1,hrec];exact run_enterLoop_outer _ _ _ _ _
 ·simp only[resolve,hg]
  simp[go_sem]
 ·intro f' _;trivial
 ·simp[invoke,go_sem,eg]
 ·obtain⟨J,hJdef⟩:∃J:Nat->NS->World->Prop,J=λt F W=>∃F1:NS,(∀k,F k↔F1 k\/k=w.heap.size\/k=w.heap.size+1)/\(∀k,F1 k->k≠w.heap.size/\k≠w.heap.size+1/\(ins->k < W.heap.size))/\I t F1 W/\W.heap[w.heap.size+1]? =some (.loop (rec .ready O))/\W.heap[w.heap.size]? =some (.deferred (some [])):=⟨_,rfl⟩
  obtain⟨Jx,hJxdef⟩:∃Jx:NS->World->Prop,Jx=λF W=>∃(F1:NS) (c:Code),(∀k,F k↔F1 k\/k=w.heap.size\/k=w.heap.size+1)/\(∀k,F1 k->k≠w.heap.size/\k≠w.heap.size+1/\(ins->k < W.heap.size))/\Ix c F1 W/\W.heap[w.heap.size+1]? =some (.loop (rec .done (some c)))/\W.heap[w.heap.size]? =some (.deferred (some [])):=⟨_,rfl⟩;have mine:∀(F F1:NS) (W W':World),(∀k,F k↔F1 k\/k=w.heap.size\/k=w.heap.size+1)->Far (y8 own F w.heap.size) W W'->Far (y8 own F1 w.heap.size) W W':=λF F1 W W' hF h=>h.mono λi _ e=>⟨λh1=>e.1 ((hF i).2 (.inl h1)),e.2⟩;refine callsIn_wide.2 ((hiter (w.heap.size+1) J Jx (λk=>F0 k\/k=w.heap.size\/k=w.heap.size+1) W1 hb1 hz1 ?_ ?_ ?_ ?_ ?_ ?_).mono ?_)
  ·rintro k (h|rfl|rfl)
   ·exact⟨(hF0 k h).1,(hF0 k h).2.1⟩
   ·exact⟨λho=>by have:=hown _ ho;omega,λho=>by have:=hrd _ ho;omega⟩
   ·exact⟨λho=>by have:=hown _ ho;omega,λho=>by have:=hrd _ ho;omega⟩
  ·rw[hJdef]
   rintro t F W W' ⟨F1,hF,hF1,hi,hl,hk⟩ hf;exact⟨F1,hF,λk h=>⟨(hF1 k h).1,(hF1 k h).2.1,λhin=>zK ((hF1 k h).2.2 hin) hf.size⟩,hI t F1 W W' hi (mine F F1 W W' hF hf),hf.heap hl (λe=>e.1 ((hF _).2 (.inr (.inr rfl)))),hf.heap hk (λe=>e.1 ((hF _).2 (.inr (.inl rfl))))⟩
  ·rw[hJxdef]
   rintro F W W' ⟨F1,c,hF,hF1,hi,hl,hk⟩ hf;exact⟨F1,c,hF,λk h=>⟨(hF1 k h).1,(hF1 k h).2.1,λhin=>zK ((hF1 k h).2.2 hin) hf.size⟩,hIx c F1 W W' hi (mine F F1 W W' hF hf),hf.heap hl (λe=>e.1 ((hF _).2 (.inr (.inr rfl)))),hf.heap hk (λe=>e.1 ((hF _).2 (.inr (.inl rfl))))⟩
  ·rw[hJdef]
   rintro t F W ⟨F1,hF,hF1,hi,hl,hk⟩;refine⟨hKn t F1 W hi,λhin k h=>?_⟩;rcases (hF k).1 h with h|rfl|rfl
   ·exact(hF1 k h).2.2 hin
   ·exact lt_of_heap hk
   ·exact lt_of_heap hl
  ·intro t ht F G v W0 hJ hE hG
   rw[hJdef]at hJ;obtain⟨F1,hF,hF1,hi,hl0,hk0⟩:=hJ;have hlt0:w.heap.size+1 < W0.heap.size:=lt_of_heap hl0;have hy:=run_yield (P:=P) (args:=v) hl0 (by rw[hrec];exact hps t v G W0 hE);rw[hrec]at hy;have hG1:∀k,G k->¬F1 k/\k≠w.heap.size/\k≠w.heap.size+1/\k < W0.heap.size:=λk h=>⟨λh1=>(hG k h).1 ((hF k).2 (.inl h1)),λh1=>(hG k h).1 ((hF k).2 (.inr (.inl h1))),λh1=>(hG k h).1 ((hF k).2 (.inr (.inr h1))),(hG k h).2⟩;refine⟨fn,_,assign,body,hy,roundIn_of_wpIn trivial (hround t F1 G v W0 _ ht hlt0 hi hE hG1 hF1 (λa₁ W hFW hbody=>?_))⟩;have hl:=hFW.heap hl0 (λe=>e);have hk:=hFW.heap hk0 (λe=>e);have hlt:w.heap.size+1 < W.heap.size:=lt_of_heap hl;refine⟨_,run_beginRound hl (by rw[hrec]),?_⟩;have hl2:(W.putObj (w.heap.size+1) (.loop { rec .ready O with state:=.busy })).heap[w.heap.size+1]? =some (.loop { rec .ready O with state:=.busy }):=World.putObj_heap_same hlt;have hk2:(W.putObj (w.heap.size+1) (.loop { rec .ready O with state:=.busy })).heap[w.heap.size]? =some (.deferred (some [])):=(World.putObj_heap_other (by omega)).trans hk;have hf2:Far (·=w.heap.size+1) W (W.putObj (w.heap.size+1) (.loop { rec .ready O with state:=.busy })):=aI _ _ _;refine wpIn_mono (hbody _ hf2 ⟨_,hl2⟩ hk2) ?_;have fin:∀(jump:Option Code) (W3:World) (F':NS),Far F1 (W.putObj (w.heap.size+1) (.loop { rec .ready O with state:=.busy })) W3->(∀k,F' k->(F1 k\/G k\/W0.heap.size<=k)/\(ins->k < W3.heap.size))->
    (Instr.endRound (w.heap.size+1) jump).run P W3=.ok (β jump.isNone) (W3.putObj (w.heap.size+1) (.loop (rec (if jump.isNone then .ready else .done) jump)))/\
    (W3.putObj (w.heap.size+1) (.loop (rec (if jump.isNone then .ready else .done) jump))).heap[w.heap.size+1]? =some (.loop (rec (if jump.isNone then .ready else .done) jump))/\
    (W3.putObj (w.heap.size+1) (.loop (rec (if jump.isNone then .ready else .done) jump))).heap[w.heap.size]? =some (.deferred (some []))/\
    Far F W0 (W3.putObj (w.heap.size+1) (.loop (rec (if jump.isNone then .ready else .done) jump)))/\(∀k,(F' k\/k=w.heap.size\/k=w.heap.size+1)->F k\/G k\/W0.heap.size<=k)/\
    (∀k,F' k->k≠w.heap.size/\k≠w.heap.size+1/\(ins->k < (W3.putObj (w.heap.size+1) (.loop (rec (if jump.isNone then .ready else .done) jump))).heap.size))/\Far (·=w.heap.size+1) W3 (W3.putObj (w.heap.size+1) (.loop (rec (if jump.isNone then .ready else .done) jump))):=λjump W3 F' hk3 hF'=>by
    have hl3:=hk3.heap hl2 (λe=>(hF1 _ e).2.1 rfl);have hd3:=hk3.heap hk2 (λe=>(hF1 _ e).1 rfl);have:=run_endRound (P:=P) jump hl3;rw[hrec]at this ⊢;refine⟨this,World.putObj_heap_same (lt_of_heap hl3),(World.putObj_heap_other (by omega)).trans hd3,?_,?_,?_,aI _ _ _⟩
    ·rw[hrec]at hk3 hf2
     exact(((hFW.mono (λ_ _ e=>e.elim)).step hf2 (λi _ e=>(hF i).2 (.inr (.inr e)))).step hk3 (λi _ e=>(hF i).2 (.inl e))).step (aI _ _ _) (λi _ e=>(hF i).2 (.inr (.inr e)))
    ·rintro k (h|h)
     ·rcases (hF' k h).1 with h|h
      ·exact .inl ((hF k).2 (.inl h))
      ·exact .inr h
     ·exact .inl ((hF k).2 (.inr h))
    ·intro k h
     refine⟨?_,?_,λhin=>by simpa using (hF' k h).2 hin⟩
     ·rcases (hF' k h).1 with h|h|h
      ·exact(hF1 k h).1
      ·exact(hG1 k h).2.1
      ·omega
     ·rcases (hF' k h).1 with h|h|h
      ·exact(hF1 k h).2.1
      ·exact(hG1 k h).2.2.1
      ·omega
   rintro e a3 W3 hp;rw[hJdef,hJxdef];cases e with
   |normal=>
    obtain⟨F',hi3,hk3,hF'⟩:=hp;obtain⟨hr,hl4,hk4,hf4,hs4,hn4,hp4⟩:=fin O W3 F' hk3 hF';exact⟨_,_,hr,_,⟨hf4,hs4⟩,.inl ⟨rfl,F',λk=>Iff.rfl,hn4,hI _ _ _ _ hi3 (new1 _ _ _ (λk h=>⟨(hn4 k h).1,(hn4 k h).2.1⟩) hp4),hl4,hk4⟩⟩
   |ret=>
    obtain⟨F',hi3,hk3,hF'⟩:=hp;obtain⟨hr,hl4,hk4,hf4,hs4,hn4,hp4⟩:=fin (some .ret) W3 F' hk3 hF';exact⟨_,_,hr,_,⟨hf4,hs4⟩,.inr ⟨rfl,F',.ret,λk=>Iff.rfl,hn4,hIx _ _ _ _ hi3 (new1 _ _ _ (λk h=>⟨(hn4 k h).1,(hn4 k h).2.1⟩) hp4),hl4,hk4⟩⟩
   |exit id=>
    obtain⟨F',hi3,hk3,hF'⟩:=hp;obtain⟨hr,hl4,hk4,hf4,hs4,hn4,hp4⟩:=fin (some (.exit id)) W3 F' hk3 hF';exact⟨_,_,hr,_,⟨hf4,hs4⟩,.inr ⟨rfl,F',.exit id,λk=>Iff.rfl,hn4,hIx _ _ _ _ hi3 (new1 _ _ _ (λk h=>⟨(hn4 k h).1,(hn4 k h).2.1⟩) hp4),hl4,hk4⟩⟩
   |goto t=>
    obtain⟨F',hi3,hk3,hF'⟩:=hp;obtain⟨hr,hl4,hk4,hf4,hs4,hn4,hp4⟩:=fin (some (.goto t)) W3 F' hk3 hF';exact⟨_,_,hr,_,⟨hf4,hs4⟩,.inr ⟨rfl,F',.goto t,λk=>Iff.rfl,hn4,hIx _ _ _ _ hi3 (new1 _ _ _ (λk h=>⟨(hn4 k h).1,(hn4 k h).2.1⟩) hp4),hl4,hk4⟩⟩
   |panic ch=>exact hp.elim
   |outgrown=>exact hp.elim
  ·rw[hJdef]
   exact⟨F0,λk=>Iff.rfl,λk h=>⟨(hF0 k h).2.2.1,(hF0 k h).2.2.2.1,λhin=>zK ((hF0 k h).2.2.2.2 hin) hb1.size⟩,hI1,hL1,hK1⟩
  ·rw[hJdef,hJxdef]
   rintro e W2 ⟨⟨v,rfl⟩,(⟨F,⟨F1,hF,hF1,hi,hl,hk⟩,hfin⟩|⟨F,F1,c,hF,hF1,hi,hl,hk⟩)⟩
   ·exact⟨O,_,by have:=run_endLoop (P:=P) hl (by rw[hrec];simp);rw[hrec]at this;exact this,hdone F1 _ (hI _ _ _ _ hi (new1 _ _ _ (λk h=>⟨(hF1 k h).1,(hF1 k h).2.1⟩) (aI _ _ _))) (hFin _ _ hfin (aI _ _ _)) ((World.putObj_heap_other (by omega)).trans hk) (λk h=>(hF1 k h).1)⟩
   ·exact⟨some c,_,by have:=run_endLoop (P:=P) hl (by rw[hrec];simp);rw[hrec]at this;exact this,hstop c F1 _ (hIx _ _ _ _ hi (new1 _ _ _ (λk h=>⟨(hF1 k h).1,(hF1 k h).2.1⟩) (aI _ _ _))) ((World.putObj_heap_other (by omega)).trans hk) (λk h=>(hF1 k h).1)⟩
theorem au{P:Program}{n:Nat}{f:Func}{g:Ending->World->Prop}{q:Nat}{a:Act}{b:World}(d:a.defers=[{ target:=.collected q,args:=#[] }])(i:b.heap[q]? =W (.deferred (W [])))
(e:∀c,Far (·=q) b c->∃v,(results f a.tmps).run P c=.ok v c/\g (ρ v) c):bodyPostM Fence.wide n P f g .ret a b:=by
 obtain⟨k,j⟩:=a;simp only at d e;subst d;refine⟨by simp,.inl ⟨_,_,rfl,run_takeDeferred i,?_⟩⟩;exact e _ (aI b q (.deferred O))
section
section
variable {P:Program} {ops:Array Oper} {md:Region.Mode} {Q:Exit->Act->World->Prop} {S:World->Prop} {E:List Nat}
def yk(P:Program)(c:Region.Mode)(b:Array Oper)(Q:Exit->Act->World->Prop)(d:World->Prop)(e:List Nat):Nat->Array Bool->Act->World->Prop
 |0,listed,a,w=>Region.ready c b listed=[]/\Q .normal a w
 |fuel+1,listed,a,w=>
  (Region.ready c b listed=[]->Q .normal a w)/\
  ∀i∈Region.ready c b listed,wpOp P b Q i (λf w'=>(i ∉ e->d w')/\yk P c b Q d e fuel (listed.setIfInBounds i true) f w') a w
theorem gL:∀(b:Nat) (c:Array Bool) (a:Act) (w:World),yk P md ops Q S E b c a w->wpAny P md ops Q b c a w
 |0,_,_,_,h=>h
 |b+1,_,_,_,h=>⟨h.1,λi f=>wpOp_mono (λe w' d=>gL b _ e w' d.2) (h.2 i f)⟩
def reach(b:Region.Mode)(a:Array Oper)(i:Nat):Nat->Nat->Bool
 |0,_=>false
 |f+1,e=>match a[e]? with|some o=>o.after.any λx=>Region.binds b x&&(x.on==i||reach b a i f x.on)|none=>false
def waits(c:Region.Mode)(b:Array Oper)(a:List Nat)(i:Nat):Bool:= !a.contains i&&a.all λe=>reach c b i 6 e
def yS(c:Region.Mode)(b:Array Oper)(a:Array Bool):Prop:=∀(j:Nat) (o:Oper),b[j]? =W o->a.getD j false=true->∀e∈o.after,Region.binds c e=true->a.getD e.on false=true
def As(c:Region.Mode)(b:Array Oper)(a:Array Bool):Bool:=(List.range b.size).all λj=>match b[j]? with|some o=>!a.getD j false||o.after.all λe=>!Region.binds c e||a.getD e.on false|none=>true
theorem gu{b:Array Bool}(g:As md ops b=true):yS md ops b:=by
 intro j o c i e k l;have f:j < ops.size:=(Array.getElem?_eq_some_iff.1 c).1;have a:=List.all_eq_true.1 g j (List.mem_range.2 f);rw[c]at a;simp only[i,Bool.not_true,Bool.false_or]at a;have d:=Array.all_eq_true'.1 a e k;rw[l]at d
 simpa using d
theorem eu{b:Array Bool}{j:Nat}(m:yS md ops b)(n:j∈Region.ready md ops b):yS md ops (b.setIfInBounds j true):=by
 intro k o c d e f g;obtain⟨_,p,a,l⟩:=mem_ready.1 n;refine getD_set_true ?_;by_cases i:j=k
 ·subst i
  rw[c]at a;injection a with a;subst a;exact l e f g
 ·rw[getD_set_ne false i]at d
  exact m k o c d e f g
theorem cL{b:Array Bool}{i:Nat}(j:yS md ops b):∀(c e:Nat),reach md ops i c e=true->(∀o,ops[e]? =W o->∀x∈o.after,Region.binds md x=true->b.getD x.on false=true)->b.getD i false=true
 |0,e,a,_=>by cases a
 |c+1,e,a,hd=>by
  unfold reach at a;cases d:ops[e]? with
  |none=>rw[d]at a;cases a
  |some o=>
   rw[d]at a;obtain⟨x,q,f⟩:=Array.any_eq_true'.1 a;rw[zQ,Bool.or_eq_true]at f;have g:=hd o d x q f.1;rcases f.2 with a|a
   ·rw[<-eq_of_beq a];exact g
   ·exact cL j c x.on a (λp n k m l=>j _ p n g k m l)
theorem jE{i j:Nat}{c:Array Bool}(s:yS md ops c)(f:waits md ops E i=true)(r:j∈Region.ready md ops c)(m:i∈Region.ready md ops c):j ∉ E:=by
 intro g;unfold waits at f;rw[zQ]at f;have q:=List.all_eq_true.1 f.2 j g;obtain⟨_,t,b,p⟩:=mem_ready.1 r;have a:=cL s 6 j q (λo l x n k=>by rw[l]at b;injection b with b;subst b;exact p x n k);have d:=(mem_ready.1 m).1;rcases Nat.lt_or_ge i c.size with e|e
 ·rw[Array.getD_eq_getD_getElem?,Array.getElem?_eq_getElem e]at d a
  simp at d a
  rw[d]at a;cases a
 ·simp[Array.getElem?_eq_none e]at a
theorem ev{i:Nat}{f:Oper}{v:Value}(q:ops[i]? =W f)(u:∀(j:Nat) (o:Oper) m n,ops[j]? =W o->o.op≠.select m n)
(C:∀G a w,Q (.panic G) (a.put f.dst v) w->Q (.panic G) a w)(F:waits md ops E i=true):
 ∀(r:Nat) (b:Array Bool) (a:Act) (w:World),yS md ops b->
  (∀j d,ops[j]? =W d->j≠i->b.getD j true=false->(∀e∈d.after,Region.binds md e=true->e.on≠i)->f.apart ops d=true)->
  i∈Region.ready md ops b->YieldsIf P ops S f v a->S w->
  yk P md ops Q S E r (b.setIfInBounds i true) (a.put f.dst v) w->yk P md ops Q S E (r+1) b a w
 |0,b,a,w,_,_,hr,hy,hS,H=>by
  refine⟨λx=>(by rw[x]at hr;cases hr),λj g=>?_⟩;by_cases c:j=i
  ·rw[c];exact hy.wpOp q hS ⟨λ_=>hS,H⟩
  ·have:=ready_mono g c
   rw[H.1]at this;cases this
 |r+1,b,a,w,hc,hfree,hr,hy,hS,H=>by
  refine⟨λx=>(by rw[x]at hr;cases hr),λj g=>?_⟩;by_cases c:j=i
  ·rw[c];exact hy.wpOp q hS ⟨λ_=>hS,H⟩
  ·have y:=jE hc F g hr
   obtain⟨D,d,s,al⟩:=mem_ready.1 g;have L:∀e∈d.after,Region.binds md e=true->e.on≠i:=λe an N R=>by
    have l:=al e an N;have z:=(mem_ready.1 hr).1;rw[R]at l;rcases Nat.lt_or_ge i b.size with t|t
    ·simp[t]at z l;rw[z]at l;cases l
    ·simp[Array.getElem?_eq_none t]at l
   refine wpOp_mono (λX w' p=>⟨λ_=>p.2.1 y,ev q u C F r (b.setIfInBounds j true) X w' (eu hc g) (λk ab T M ac ad=>?_) (ready_mono hr (Ne.symm c)) p.1 (p.2.1 y) ?_⟩)
    (wpOp_putIf s (hfree j d s c D L) (λm n=>u i f m n q) (λm n=>u j d m n s) C hy (H.2 j (ready_mono g c)))
   ·refine hfree k ab T M ?_ ad
    by_cases A:j=k
    ·exact A ▸ D
    ·rwa [getD_set_ne true A]at ac
   ·rw[Array.setIfInBounds_comm _ _ c]
    exact p.2.2
def zj(b:Region.Mode)(a:Array Oper)(c:List Nat):List Nat->Array Bool->Bool
 | [],_=>true
 |i::is,l=>As b a l&&Region.free b a l i&&(Region.ready b a l).contains i&&waits b a c i&&zj b a c is (l.setIfInBounds i true)
def Ab:List Nat->Array Bool->Array Bool
 | [],l=>l
 |i::is,l=>Ab is (l.setIfInBounds i true)
def xT(P:Program)(b:Array Oper)(d:World->Prop):List Nat->Act->(Act->Prop)->Prop
 | [],a,K=>K a
 |i::is,a,K=>∃c v,b[i]? =W c/\YieldsIf P b d c v a/\xT P b d is (a.put c.dst v) K
theorem xT.take{i:Nat}{c:List Nat}{a:Act}{K:Act->Prop}{b:Oper}{v:Value}(f:ops[i]? =W b)(d:Region.wanted b (yielded ops a.tmps)=true)(g:∀w,S w->(execOp a.eval b).run P w=.ok (.value v) w)(e:xT P ops S c (a.put b.dst v) K):xT P ops S (i::c) a K:=⟨b,v,f,.inl ⟨d,g⟩,e⟩
theorem xT.skip{i:Nat}{c:List Nat}{a:Act}{K:Act->Prop}{b:Oper}(f:ops[i]? =W b)(d:Region.wanted b (yielded ops a.tmps)=false)(e:xT P ops S c (a.put b.dst undef) K):xT P ops S (i::c) a K:=⟨b,undef,f,.inr ⟨d,rfl⟩,e⟩
theorem xT.done{a:Act}{K:Act->Prop}(b:K a):xT P ops S [] a K:=b
theorem aJ(l:Region.noSelect ops=true)(m:∀e a (k:Option Tmp × Value) w,Q (.panic e) (a.put k.1 k.2) w->Q (.panic e) a w){w:World}(g:S w)(f:Nat):∀(c:List Nat) (b:Array Bool) (a:Act),zj md ops E c b=true->
 xT P ops S c a (λo=>yk P md ops Q S E f (Ab c b) o w)->yk P md ops Q S E (f+c.length) b a w
 | [],b,a,_,d=>d
 |i::c,b,a,hk,d=>by
  unfold zj at hk;rw[zQ,zQ,zQ,zQ]at hk;obtain⟨q,v,j,n,p⟩:=d;exact ev j (Region.noSelect_spec l) (λe a w d=>m e a (_,_) w d) hk.1.2 _ b a w (gu hk.1.1.1.1) (Region.free_spec j hk.1.1.1.2) (by simpa using hk.1.1.2) n g (aJ l m g f c _ _ hk.2 p)
theorem dx{i:Nat}{g:Oper}{v:Value}(p:ops[i]? =W g)(x:∀(j:Nat) (o:Oper) m n,ops[j]? =W o->o.op≠.select m n)
(C:∀F a w,Q (.panic F) (a.put g.dst v) w->Q (.panic F) a w)(u:i∈E):
 ∀(q:Nat) (c:Array Bool) (a:Act) (w:World),
  (∀j f,ops[j]? =W f->j≠i->c.getD j true=false->(∀e∈f.after,Region.binds md e=true->e.on≠i)->g.apart ops f=true)->
  i∈Region.ready md ops c->YieldsIf P ops (λ_=>True) g v a->
  yk P md ops Q S E q (c.setIfInBounds i true) (a.put g.dst v) w->yk P md ops Q S E (q+1) c a w
 |0,c,a,w,_,hr,hy,H=>by
  refine⟨λd=>(by rw[d]at hr;cases hr),λj r=>?_⟩;by_cases b:j=i
  ·rw[b];exact hy.wpOp p trivial ⟨λd=>absurd u d,H⟩
  ·have:=ready_mono r b
   rw[H.1]at this;cases this
 |q+1,c,a,w,hfree,hr,hy,H=>by
  refine⟨λd=>(by rw[d]at hr;cases hr),λj r=>?_⟩;by_cases b:j=i
  ·rw[b];exact hy.wpOp p trivial ⟨λd=>absurd u d,H⟩
  ·obtain⟨D,f,s,ad⟩:=mem_ready.1 r
   have G:∀e∈f.after,Region.binds md e=true->e.on≠i:=λe al M N=>by
    have l:=ad e al M;have z:=(mem_ready.1 hr).1;rw[N]at l;rcases Nat.lt_or_ge i c.size with t|t
    ·simp[t]at z l;rw[z]at l;cases l
    ·simp[Array.getElem?_eq_none t]at l
   refine wpOp_mono (λT w' y=>⟨y.2.1,dx p x C u q (c.setIfInBounds j true) T w' (λk X R L ab ac=>?_) (ready_mono hr (Ne.symm b)) y.1 ?_⟩)
    (wpOp_putIf s (hfree j f s b D G) (λm n=>x i g m n p) (λm n=>x j f m n s) C hy (H.2 j (ready_mono r b)))
   ·refine hfree k X R L ?_ ac
    by_cases A:j=k
    ·exact A ▸ D
    ·rwa [getD_set_ne true A]at ab
   ·rw[Array.setIfInBounds_comm _ _ b]
    exact y.2.2
def Ac(b:Region.Mode)(a:Array Oper)(c:List Nat):List Nat->Array Bool->Bool
 | [],_=>true
 |i::is,l=>Region.free b a l i&&(Region.ready b a l).contains i&&c.contains i&&Ac b a c is (l.setIfInBounds i true)
theorem ee(l:Region.noSelect ops=true)(g:∀e a (k:Option Tmp × Value) w,Q (.panic e) (a.put k.1 k.2) w->Q (.panic e) a w){w:World}(f:Nat):∀(c:List Nat) (b:Array Bool) (a:Act),Ac md ops E c b=true->
 xT P ops (λ_=>True) c a (λn=>yk P md ops Q S E f (Ab c b) n w)->yk P md ops Q S E (f+c.length) b a w
 | [],b,a,_,d=>d
 |i::c,b,a,hk,d=>by
  unfold Ac at hk;rw[zQ,zQ,zQ]at hk;obtain⟨p,v,j,m,o⟩:=d;exact dx j (Region.noSelect_spec l) (λe a w d=>g e a (_,_) w d) (by simpa using hk.1.2) _ b a w (Region.free_spec j hk.1.1.1) (by simpa using hk.1.1.2) m (ee l g f c _ _ hk.2 o)
def xQ(P:Program)(j:Region.Mode)(c:Array Oper)(Q:Exit->Act->World->Prop)(b:World->Prop)(d:List Nat)(e:Nat)(g:Array Bool)(a:Act)(w:World)(f:List Nat):Prop:=
 ∀i∈f,wpOp P c Q i (λk w'=>(i ∉ d->b w')/\yk P j c Q b d e (g.setIfInBounds i true) k w') a w
theorem ww(b:List Nat){d:Nat}{c:Array Bool}{a:Act}{w:World}(e:Region.ready md ops c=b)(f:b≠[])(g:xQ P md ops Q S E d c a w b):yk P md ops Q S E (d+1) c a w:=
 ⟨λi=>absurd (e ▸ i) f,e ▸ g⟩
theorem aP{c:Array Bool}{a:Act}{w:World}(e:Region.ready md ops c=[])(d:Q .normal a w):∀b:Nat,yk P md ops Q S E b c a w
 |0=>⟨e,d⟩
 |b+1=>⟨λ_=>d,by rw[e];intro i f;cases f⟩
theorem xQ.nil{b:Nat}{c:Array Bool}{a:Act}{w:World}:xQ P md ops Q S E b c a w []:=λ_ d=>by cases d
theorem xQ.cons{c:Nat}{d:Array Bool}{a:Act}{w:World}{i:Nat}{o:Oper}{f:List Nat}(k:ops[i]? =W o)(l:Region.wanted o (yielded ops a.tmps)=true)
(m:∀b:Act->World->Prop,Shut (∀a w,(i ∉ E->S w)->yk P md ops Q S E c (d.setIfInBounds i true) a w->b a w)->Oper.wp P o a w b Q)
(q:xQ P md ops Q S E c d a w f):xQ P md ops Q S E c d a w (i::f):=λj e=>by
 rcases List.mem_cons.1 e with rfl|e
 ·exact wpOp_step k (λb p=>by rw[if_pos l];exact m b (λa w n g=>p a w ⟨n,g⟩))
 ·exact q j e
theorem aq(b:List Nat){d:Nat}{c:Array Bool}{a:Act}{w:World}(e:xQ P md ops Q S E d c a w b)(g:Region.ready md ops c=b:=by kernel_rfl)(f:b≠[]:=by simp):yk P md ops Q S E (d+1) c a w:=ww b g f e
theorem aj{b:Nat}{c:Array Bool}{a:Act}{w:World}{i:Nat}{o:Oper}{d:List Nat}(f:ops[i]? =W o)(g:∀e:Act->World->Prop,Shut (∀a w,(i ∉ E->S w)->yk P md ops Q S E b (c.setIfInBounds i true) a w->e a w)->Oper.wp P o a w e Q)(k:xQ P md ops Q S E b c a w d)(j:Region.wanted o (yielded ops a.tmps)=true:=by kernel_rfl):xQ P md ops Q S E b c a w (i::d):=xQ.cons f j g k
def zw(a:Array Oper):Bool:=a.all λo=>match o.op with| .defer _=>false|_=>true
theorem oT(c:zw ops=true)(i:Nat)(o:Oper)(b:ops[i]? =W o):∀a,o.op≠.defer a:=by
 intro a e;obtain⟨d,rfl⟩:=Array.getElem?_eq_some_iff.1 b;have:=(Array.all_eq_true.1 c) i d;rw[e]at this;cases this
theorem gD(l n:Nat)(m:zw ops=true)(q:¬LetsOut Q){i:Nat}{K k:Act->World->Prop}{a:Act}{w:World}(c:∀a w,K a w->k a w)(b:wpOp P ops Q i K a w):wpOpIn (Fence.wide.inRound l) n P ops Q i k a w:=by
 unfold wpOp at b;unfold wpOpIn;cases g:ops[i]? with
 |none=>rw[g]at b;exact c _ _ b
 |some o=>
  rw[g]at b;simp only at b ⊢;split
  ·rename_i hw
   rw[if_pos hw]at b;rcases b with b|b
   ·unfold Oper.wpIn
    refine⟨λ_ _=>trivial,?_⟩;rw[Oper.semAt_eq _ _ _ (oT m i o g)];unfold Oper.wp at b;generalize (execOp a.eval o).run P w=d at *;cases d with
    |ok x w'=>
     cases x<;>simp only[Oper.uponIn,Oper.upon]at b ⊢
     case value=>exact c _ _ b
     case skip=>exact c _ _ b
     case defer=>exact c _ _ b
     case enter f args=>
      refine⟨λb=>by simp[Fence.wide]at b,CallsIn.mono (CallsIn.inRound l (callsIn_wide.2 b)) (λe t j=>by cases e<;>first|exact c _ _ j|exact j)⟩
     case row f args=>
      exact⟨λb=>by simp[Fence.wide]at b,λr p _=>let ⟨v,w2,d,s⟩:=b r p;⟨v,w2,c _ _ d,stepsIn_wide.2 s⟩⟩
    |halt x w'=>cases x<;>simp only[Oper.uponIn,Oper.upon]at b ⊢<;>exact b
   ·exact absurd b.2 q
  ·rename_i hw
   rw[if_neg hw]at b;exact⟨λ_ _=>trivial,c _ _ b⟩
theorem ew(l n:Nat)(c:zw ops=true)(d:¬LetsOut Q):∀(b:Nat) (e:Array Bool) (a:Act) (w:World),yk P md ops Q S E b e a w->wpAnyIn (Fence.wide.inRound l) n P md ops Q b e a w
 |0,_,_,_,h=>h
 |b+1,_,_,_,h=>⟨h.1,λi j=>gD l n c d (λg w' f=>ew l n c d b _ g w' f.2) (h.2 i j)⟩
theorem aN{c l n:Nat}{a:Act}{w:World}(e:World->Prop)(i:List Nat)(d:P.follows .mixedOrders=true)(b:zw ops=true)(f:¬LetsOut Q)
(g:yk P .any ops Q e i ops.size (Array.replicate ops.size false) a w.drew):(Code.region c ops true).wpIn (Fence.wide.inRound l) n P Q a w:=
 wpIn_region_any d (ew l n b f _ _ _ _ g)
theorem ar{b:Nat}{a:Act}{w:World}(d:World->Prop)(f:List Nat)(c:P.follows .mixedOrders=true)
(e:yk P .any ops Q d f ops.size (Array.replicate ops.size false) a w.drew):(Code.region b ops true).wp P Q a w:=
 wp_region_any c (gL _ _ _ _ e)
end
end
section
section
variable {P:Program} {ops:Array Oper} {md:Region.Mode} {Q:Exit->Act->World->Prop} {S:World->Prop} {E:List Nat}
def AE(b:Nat)(d:Region.Mode)(c:Array Oper)(a:List Nat)(i:Nat):Bool:= !a.contains i&&a.all λe=>reach d c i b e
theorem nT(g:Nat){i j:Nat}{c:Array Bool}(f:AE g md ops E i=true)(t:yS md ops c)(s:j∈Region.ready md ops c)(n:i∈Region.ready md ops c):j ∉ E:=by
 intro k;unfold AE at f;rw[zQ]at f;have r:=List.all_eq_true.1 f.2 j k;obtain⟨_,u,b,q⟩:=mem_ready.1 s;have a:=cL t g j r (λo m x p l=>by rw[m]at b;injection b with b;subst b;exact q x p l);have d:=(mem_ready.1 n).1;rcases Nat.lt_or_ge i c.size with e|e
 ·rw[Array.getD_eq_getD_getElem?,Array.getElem?_eq_getElem e]at d a
  simp at d a
  rw[d]at a;cases a
 ·simp[Array.getElem?_eq_none e]at a
theorem dy{i:Nat}{f:Oper}{v:Value}(q:ops[i]? =W f)(u:∀(j:Nat) (o:Oper) m n,ops[j]? =W o->o.op≠.select m n)
(C:∀G a w,Q (.panic G) (a.put f.dst v) w->Q (.panic G) a w)(F:∀(b:Array Bool) (j:Nat),yS md ops b->j∈Region.ready md ops b->i∈Region.ready md ops b->j ∉ E):
 ∀(r:Nat) (b:Array Bool) (a:Act) (w:World),yS md ops b->
  (∀j d,ops[j]? =W d->j≠i->b.getD j true=false->(∀e∈d.after,Region.binds md e=true->e.on≠i)->f.apart ops d=true)->
  i∈Region.ready md ops b->YieldsIf P ops S f v a->S w->
  yk P md ops Q S E r (b.setIfInBounds i true) (a.put f.dst v) w->yk P md ops Q S E (r+1) b a w
 |0,b,a,w,_,_,hr,hy,hS,H=>by
  refine⟨λx=>(by rw[x]at hr;cases hr),λj g=>?_⟩;by_cases c:j=i
  ·rw[c];exact hy.wpOp q hS ⟨λ_=>hS,H⟩
  ·have:=ready_mono g c
   rw[H.1]at this;cases this
 |r+1,b,a,w,hc,hfree,hr,hy,hS,H=>by
  refine⟨λx=>(by rw[x]at hr;cases hr),λj g=>?_⟩;by_cases c:j=i
  ·rw[c];exact hy.wpOp q hS ⟨λ_=>hS,H⟩
  ·have y:=F b j hc g hr
   obtain⟨D,d,s,al⟩:=mem_ready.1 g;have L:∀e∈d.after,Region.binds md e=true->e.on≠i:=λe an N R=>by
    have l:=al e an N;have z:=(mem_ready.1 hr).1;rw[R]at l;rcases Nat.lt_or_ge i b.size with t|t
    ·simp[t]at z l;rw[z]at l;cases l
    ·simp[Array.getElem?_eq_none t]at l
   refine wpOp_mono (λX w' p=>⟨λ_=>p.2.1 y,dy q u C F r (b.setIfInBounds j true) X w' (eu hc g) (λk ab T M ac ad=>?_) (ready_mono hr (Ne.symm c)) p.1 (p.2.1 y) ?_⟩)
    (wpOp_putIf s (hfree j d s c D L) (λm n=>u i f m n q) (λm n=>u j d m n s) C hy (H.2 j (ready_mono g c)))
   ·refine hfree k ab T M ?_ ad
    by_cases A:j=k
    ·exact A ▸ D
    ·rwa [getD_set_ne true A]at ac
   ·rw[Array.setIfInBounds_comm _ _ c]
    exact p.2.2
def Ad(d:Nat)(b:Region.Mode)(a:Array Oper)(c:List Nat):List Nat->Array Bool->Bool
 | [],_=>true
 |i::is,l=>As b a l&&Region.free b a l i&&(Region.ready b a l).contains i&&AE d b a c i&&Ad d b a c is (l.setIfInBounds i true)
theorem ay(f:Nat)(o:Region.noSelect ops=true)(m:∀e a (k:Option Tmp × Value) w,Q (.panic e) (a.put k.1 k.2) w->Q (.panic e) a w){w:World}(p:S w)(g:Nat):∀(c:List Nat) (b:Array Bool) (a:Act),Ad f md ops E c b=true->
 xT P ops S c a (λr=>yk P md ops Q S E g (Ab c b) r w)->yk P md ops Q S E (g+c.length) b a w
 | [],b,a,_,d=>d
 |i::c,b,a,hk,d=>by
  unfold Ad at hk;rw[zQ,zQ,zQ,zQ]at hk;obtain⟨y,v,n,q,s⟩:=d;exact dy n (Region.noSelect_spec o) (λe a w d=>m e a (_,_) w d) (λl j x u t=>nT f hk.1.2 x u t) _ b a w (gu hk.1.1.1.1) (Region.free_spec n hk.1.1.1.2) (by simpa using hk.1.1.2) q p (ay f o m p g c _ _ hk.2 s)
end
end
section
section
variable {n:Nat} {P:Program} {ops:Array Oper} {md:Region.Mode} {Q:Exit->Act->World->Prop} {S:World->Prop} {E:List Nat}
theorem jB{i:Nat}{o:Oper}{v:Value}{a:Act}(g:ops[i]? =W o)(e:YieldsIf P ops S o v a){K:Act->World->Prop}{w:World}(f:S w)(c:K (a.put o.dst v) w):wpOpIn Fence.wide n P ops Q i K a w:=by
 unfold Go.wpOpIn;simp only[g];rcases e with ⟨b,d⟩|⟨b,rfl⟩
 ·simp only[b,if_true,Oper.wpIn,show Fence.wide.round=O from rfl,Oper.semAt_none,d w f,Oper.uponIn];exact⟨λ_ _=>trivial,c⟩
 ·simp only[b,Bool.false_eq_true,if_false];exact⟨λ_ _=>trivial,c⟩
theorem jC{j:Nat}{oi oj:Oper}{v:Value}(hj:ops[j]? =W oj)(hap:oi.apart ops oj=true)(hsi:∀cs b,oi.op≠.select cs b)(hsj:∀cs b,oj.op≠.select cs b)
(hQ:∀c a w,Q (.panic c) (a.put oi.dst v) w->Q (.panic c) a w){K:Act->World->Prop}{a:Act}{w:World}(hy:YieldsIf P ops S oi v a)(h:wpOpIn Fence.wide n P ops Q j K (a.put oi.dst v) w):
 wpOpIn Fence.wide n P ops Q j (λa' w'=>YieldsIf P ops S oi v a'/\K (a'.put oi.dst v) w') a w:=by
 obtain⟨h1,h2,h3⟩:=Oper.apart_spec hap;have keep:∀(a:Act),YieldsIf P ops S oi v a->∀u,YieldsIf P ops S oi v (a.put oj.dst u):=λa hy u=>hy.of_same (execOp_put oi hsi a oj.dst u h3) (wanted_put oi a oj.dst u h3);have keepD:∀d,YieldsIf P ops S oi v { a with defers:=d::a.defers }:=λd=>hy.of_same rfl rfl;unfold wpOpIn at *;simp only[hj]at *;rw[wanted_put oj a oi.dst v h1,about_put oj w a oi.dst v h1]at h;split
 ·rename_i hw
  simp only[hw,if_true]at h;unfold Oper.wpIn at *;rw[about_put oj w a oi.dst v h1]at h;refine⟨h.1,?_⟩;have h:=h.2;rw[show Fence.wide.round=O from rfl,Oper.semAt_none,execOp_put oj hsj a oi.dst v h1]at h;rw[show Fence.wide.round=O from rfl,Oper.semAt_none];generalize (execOp a.eval oj).run P w=r at *;cases r with
  |ok x w'=>
   cases x<;>simp only[Oper.uponIn]at h ⊢
   case value u=>exact⟨keep a hy u,by rw[<-Act.put_comm a v u h2];exact h⟩
   case skip=>exact⟨keep a hy _,by rw[<-Act.put_comm a v undef h2];exact h⟩
   case defer d=>
    refine⟨keep _ (keepD d) _,?_⟩;rw[<-Act.put_comm _ v undef h2,<-Act.put_defers];exact h
   case enter f args=>
    refine⟨h.1,CallsIn.mono h.2 λe w'' he=>?_⟩;cases e with
    |returned u=>exact⟨keep a hy u,by rw[<-Act.put_comm a v u h2];exact he⟩
    |panicked c=>exact hQ _ _ _ he
    |outgrown=>exact he
   case row row args=>exact⟨h.1,RowsIn.mono h.2 λu w'' he=>⟨keep a hy u,by rw[<-Act.put_comm a v u h2];exact he⟩⟩
   case round l f tmps assign body=>
    refine⟨h.1,RoundIn.mono h.2 λe w'' he=>?_⟩;cases e with
    |returned u=>exact⟨keep a hy u,by rw[<-Act.put_comm a v u h2];exact he⟩
    |panicked c=>exact hQ _ _ _ he
    |outgrown=>exact he
  |halt x w'=>
   cases x<;>simp only[Oper.uponIn]at h ⊢
   case panic u=>exact hQ _ _ _ h
 ·rename_i hw
  simp only[hw]at h;exact⟨h.1,keep a hy _,by rw[<-Act.put_comm a v undef h2];exact h.2⟩
def yI(n:Nat)(P:Program)(c:Region.Mode)(b:Array Oper)(Q:Exit->Act->World->Prop)(d:World->Prop)(e:List Nat):Nat->Array Bool->Act->World->Prop
 |0,listed,a,w=>Region.ready c b listed=[]/\Q .normal a w
 |fuel+1,listed,a,w=>
  (Region.ready c b listed=[]->Q .normal a w)/\
  ∀i∈Region.ready c b listed,wpOpIn Fence.wide n P b Q i (λf w'=>(i ∉ e->d w')/\yI n P c b Q d e fuel (listed.setIfInBounds i true) f w') a w
theorem ey:∀(b:Nat) (c:Array Bool) (a:Act) (w:World),yI n P md ops Q S E b c a w->wpAnyIn Fence.wide n P md ops Q b c a w
 |0,_,_,_,h=>h
 |b+1,_,_,_,h=>⟨h.1,λi f=>wpOpIn_mono (λe w' d=>ey b _ e w' d.2) (h.2 i f)⟩
theorem ez{i:Nat}{f:Oper}{v:Value}(r:ops[i]? =W f)(x:∀(j:Nat) (o:Oper) m p,ops[j]? =W o->o.op≠.select m p)
(D:∀L a w,Q (.panic L) (a.put f.dst v) w->Q (.panic L) a w)(G:waits md ops E i=true):
 ∀(s:Nat) (b:Array Bool) (a:Act) (w:World),yS md ops b->
  (∀j d,ops[j]? =W d->j≠i->b.getD j true=false->(∀e∈d.after,Region.binds md e=true->e.on≠i)->f.apart ops d=true)->
  i∈Region.ready md ops b->YieldsIf P ops S f v a->S w->
  yI n P md ops Q S E s (b.setIfInBounds i true) (a.put f.dst v) w->yI n P md ops Q S E (s+1) b a w
 |0,b,a,w,_,_,hr,hy,hS,H=>by
  refine⟨λy=>(by rw[y]at hr;cases hr),λj g=>?_⟩;by_cases c:j=i
  ·rw[c];exact jB r hy hS ⟨λ_=>hS,H⟩
  ·have:=ready_mono g c
   rw[H.1]at this;cases this
 |s+1,b,a,w,hc,hfree,hr,hy,hS,H=>by
  refine⟨λy=>(by rw[y]at hr;cases hr),λj g=>?_⟩;by_cases c:j=i
  ·rw[c];exact jB r hy hS ⟨λ_=>hS,H⟩
  ·have z:=jE hc G g hr
   obtain⟨F,d,t,an⟩:=mem_ready.1 g;have M:∀e∈d.after,Region.binds md e=true->e.on≠i:=λe ao R T=>by
    have l:=an e ao R;have A:=(mem_ready.1 hr).1;rw[T]at l;rcases Nat.lt_or_ge i b.size with u|u
    ·simp[u]at A l;rw[A]at l;cases l
    ·simp[Array.getElem?_eq_none u]at l
   refine wpOpIn_mono (λab w' q=>⟨λ_=>q.2.1 z,ez r x D G s (b.setIfInBounds j true) ab w' (eu hc g) (λk ac X N ad al=>?_) (ready_mono hr (Ne.symm c)) q.1 (q.2.1 z) ?_⟩)
    (jC t (hfree j d t c F M) (λm p=>x i f m p r) (λm p=>x j d m p t) D hy (H.2 j (ready_mono g c)))
   ·refine hfree k ac X N ?_ al
    by_cases C:j=k
    ·exact C ▸ F
    ·rwa [getD_set_ne true C]at ad
   ·rw[Array.setIfInBounds_comm _ _ c]
    exact q.2.2
theorem fV(l:Region.noSelect ops=true)(m:∀e a (k:Option Tmp × Value) w,Q (.panic e) (a.put k.1 k.2) w->Q (.panic e) a w){w:World}(g:S w)(f:Nat):∀(c:List Nat) (b:Array Bool) (a:Act),zj md ops E c b=true->
 xT P ops S c a (λp=>yI n P md ops Q S E f (Ab c b) p w)->yI n P md ops Q S E (f+c.length) b a w
 | [],b,a,_,d=>d
 |i::c,b,a,hk,d=>by
  unfold zj at hk;rw[zQ,zQ,zQ,zQ]at hk;obtain⟨r,v,j,o,q⟩:=d;exact ez j (Region.noSelect_spec l) (λe a w d=>m e a (_,_) w d) hk.1.2 _ b a w (gu hk.1.1.1.1) (Region.free_spec j hk.1.1.1.2) (by simpa using hk.1.1.2) o g (fV l m g f c _ _ hk.2 q)
def yj(n:Nat)(P:Program)(g:Region.Mode)(c:Array Oper)(Q:Exit->Act->World->Prop)(b:World->Prop)(d:List Nat)(e:Nat)(j:Array Bool)(a:Act)(w:World)(f:List Nat):Prop:=
 ∀i∈f,wpOpIn Fence.wide n P c Q i (λk w'=>(i ∉ d->b w')/\yI n P g c Q b d e (j.setIfInBounds i true) k w') a w
theorem dQ(b:List Nat){d:Nat}{c:Array Bool}{a:Act}{w:World}(e:Region.ready md ops c=b)(f:b≠[])(g:yj n P md ops Q S E d c a w b):yI n P md ops Q S E (d+1) c a w:=
 ⟨λi=>absurd (e ▸ i) f,e ▸ g⟩
theorem rD{c:Array Bool}{a:Act}{w:World}(e:Region.ready md ops c=[])(d:Q .normal a w):∀b:Nat,yI n P md ops Q S E b c a w
 |0=>⟨e,d⟩
 |b+1=>⟨λ_=>d,by rw[e];intro i f;cases f⟩
theorem yj.nil{b:Nat}{c:Array Bool}{a:Act}{w:World}:yj n P md ops Q S E b c a w []:=λ_ d=>by cases d
theorem yj.cons{c:Nat}{d:Array Bool}{a:Act}{w:World}{i:Nat}{o:Oper}{f:List Nat}(k:ops[i]? =W o)(l:Region.wanted o (yielded ops a.tmps)=true)
(m:∀b:Act->World->Prop,Shut (∀a w,(i ∉ E->S w)->yI n P md ops Q S E c (d.setIfInBounds i true) a w->b a w)->Oper.wpIn Fence.wide n P o a w b Q)
(r:yj n P md ops Q S E c d a w f):yj n P md ops Q S E c d a w (i::f):=λj e=>by
 rcases List.mem_cons.1 e with rfl|e
 ·exact wpOpIn_step k (λb q=>by rw[if_pos l];exact m b (λa w p g=>q a w ⟨p,g⟩))
 ·exact r j e
theorem jz{i:Nat}{c:List Nat}{a:Act}{K:Act->Prop}{b:Oper}{v:Value}{d:Option Tmp}(j:ops[i]? =W b)(e:b.dst=d)(f:Region.wanted b (yielded ops a.tmps)=true)(k:∀w,S w->(execOp a.eval b).run P w=.ok (.value v) w)(g:xT P ops S c (a.put d v) K):xT P ops S (i::c) a K:=by subst e;exact⟨b,v,j,.inl ⟨f,k⟩,g⟩
theorem ax{i:Nat}{c:List Nat}{a:Act}{K:Act->Prop}{b:Oper}{v:Value}{d:Option Tmp}(k:∀w,S w->(execOp a.eval b).run P w=.ok (.value v) w)(g:xT P ops S c (a.put d v) K)(j:ops[i]? =W b:=by exact rfl)(e:b.dst=d:=by simp only[zH,zI,zJ];rfl)(f:Region.wanted b (yielded ops a.tmps)=true:=by kernel_rfl):xT P ops S (i::c) a K:=jz j e f k g
theorem aB{i:Nat}{c:List Nat}{a:Act}{K:Act->Prop}{b:Oper}{d:Option Tmp}(j:ops[i]? =W b)(e:b.dst=d)(f:Region.wanted b (yielded ops a.tmps)=false)(g:xT P ops S c (a.put d undef) K):xT P ops S (i::c) a K:=by subst e;exact⟨b,undef,j,.inr ⟨f,rfl⟩,g⟩
theorem cK{b:Nat}{a:Act}{w:World}(d:World->Prop)(f:List Nat)(c:P.follows .mixedOrders=true)
(e:yI n P .any ops Q d f ops.size (Array.replicate ops.size false) a w.drew):(Code.region b ops true).wpIn Fence.wide n P Q a w:=
 wpIn_region_any c (ey _ _ _ _ e)
end
end
def Az(s:ByteArray)(p d:Nat):Bool:=decide (s.size<=p)||y7 s p||(yC s p [58]&&Tp.closed d (s.data.toList.drop (p+1)))||(decide (0 < d)&&yC s p [44,91,93,123,125])
theorem bN{w w':World}(a:Below w.drew.heap.size w.drew w'):Below w.heap.size w w':=(ζ w.heap.size w).drew.trans a
theorem uI(x a:Int)(b:World):(binOp .gtr 3 (V I x) (V I a)).run π b=.ok (β (decide (a < x))) b:=by
 simp[go_sem]
theorem oB(w:World)(a:List UInt8)(T:TypeId)(b:Nat × Nat)(g:Nat)(c:g=w.heap.size):RA (w.alloc (J (a.map byV).toArray T b)) (W ⟨g,0,O⟩) g 0 (a.map byV):=by subst c;exact qB w a T b
theorem rm(k:Nat)(s:ByteArray)(p d:Nat)(a9:p<=100000)(bb:s.size<=100000)(a2:yC s p [58]=true->Tp.closed d (s.data.toList.drop (p+1))=true)(w:World)(u:yb w k s p d):
 Calls π 266 #[Z (W ⟨k,0,O⟩)] w λe w'=>e=ρ (β (Az s p d))/\Below w.heap.size w w':=by
 have A:=lt_of_heap u;have G:=zF u 0 rfl;have C:=zF u 1 rfl;have D:=zF u 2 rfl;have ab:=im k s p d (by omega) (by omega);have X:=λr g u N=>cO k s p d p 0 (by omega) (by omega) (by omega) [58] g 1 rfl (by omega) r u N;have ad:=bT k s p d (p+1) 1 (by omega) (by omega) (by omega);have T:=λr g u N=>cO k s p d p 0 (by omega) (by omega) (by omega) [44,91,93,123,125] g 5 rfl (by omega) r u N;have F:=λr=>Lib.run_convert_bytes_const (P:=π) r 36 5 #[V .u8 44,V .u8 91,V .u8 93,V .u8 123,V .u8 125] 5 5 underlying36 underlying5;rw[show (#[V .u8 44,V .u8 91,V .u8 93,V .u8 123,V .u8 125]:Array Value).size=5 from rfl]at F;have a6:yC s p [58]=true->yC s p [44,91,93,123,125]=false:=by
  unfold yC;cases s.data.toList[p]? with
  |none=>intro i;cases i
  |some c=>intro i;simp at i;subst i;decide
 unfold Az;generalize y7 s p=a0 at *;generalize yC s p [58]=I at *;generalize Tp.closed d (s.data.toList.drop (p+1))=ao at *;generalize yC s p [44,91,93,123,125]=ba at *;obtain⟨x,E,L,a4,av⟩:=zx5 u ab X ad T;clear u ab X ad T;have R:=λr=>uJ (p:Int) (s.size:Int) r;by_cases ac:s.size<=p
 ·rw[decide_eq_true ac]
  rw[decide_eq_true (by omega:(s.size:Int)<=(p:Int))]at R
  go_enter func266,ntmps266
  go_wp2_with fail
  go_quiet (fail)
  go_wp2_with fail
  go_ret
  exact⟨by simp[Act.put],bM (ζ _ _) _⟩
 rw[decide_eq_false ac];rw[decide_eq_false (by omega:¬(s.size:Int)<=(p:Int))]at R;have a1:d=0\/0 < d:=by omega
 cases a0 with
 |true=>
  go_enter func266,ntmps266
  go_upto_region 1 with (fail)
  refine wp_region_noPanic ?_;refine ar (λw'=>w'.cell? ⟨k,0,O⟩=W (U s)/\w'.cell? ⟨k,1,O⟩=W (V .i64 (p:Int))/\w'.cell? ⟨k,2,O⟩=W (V .i64 (d:Int))) [] (by kernel_rfl) ?_;refine ay 20 (by kernel_rfl) (λ_ _ _ _ i=>i) (by exact⟨G,C,D⟩) 29 [0,1,2,3,4,5,6,7,8,9,10,11,12,13,14,15] _ _ (by kernel_rfl) ?_;iterate 16 (refine ax (v:=?_) ?_ ?_;rotate_left;·(intro o b;(try dsimp only at b);(try obtain⟨n,l,m⟩:=b);go_simp;try with_reducible rfl);(try go_frame))
  refine xT.done ?_;try dsimp only
  refine aq [16] ?_;refine aj rfl (λK f=>?_) xQ.nil
  go_simp
  refine(E.out w.drew x.out).mono ?_;rintro e j ⟨rfl,t⟩;have q:Below w.heap.size w j:=bN t;have a:=zD (yb.below (w:=w) x.out q A);clear t;refine f.out _ _ (λ_=>(by exact⟨ae (a.out) 0,ae (a.out) 1,ae (a.out) 2⟩)) ?_;clear f K
  (try go_frame)
  refine ay 20 (by kernel_rfl) (λ_ _ _ _ i=>i) (by exact⟨ae (a.out) 0,ae (a.out) 1,ae (a.out) 2⟩) 0 [17,18,19,20,21,22,23,24,25,26,27,28,29,30,31,32,33,34,35,36,37,38,39,40,41,42,43,44] _ _ (by kernel_rfl) ?_;iterate 2 (refine ax (v:=?_) ?_ ?_;rotate_left;·(intro o b;(try dsimp only at b);(try obtain⟨n,l,m⟩:=b);go_simp;try with_reducible rfl);(try go_frame))
  iterate 9 (refine aB rfl (by simp only[zH,zI,zJ];rfl) (by kernel_rfl) ?_;(try go_frame))
  iterate 2 (refine ax (v:=?_) ?_ ?_;rotate_left;·(intro o b;(try dsimp only at b);(try obtain⟨n,l,m⟩:=b);go_simp;try with_reducible rfl);(try go_frame))
  iterate 13 (refine aB rfl (by simp only[zH,zI,zJ];rfl) (by kernel_rfl) ?_;(try go_frame))
  iterate 2 (refine ax (v:=?_) ?_ ?_;rotate_left;·(intro o b;(try dsimp only at b);(try obtain⟨n,l,m⟩:=b);go_simp;try with_reducible rfl);(try go_frame))
  refine xT.done ?_;try dsimp only
  refine aP (by kernel_rfl) (NoPanic.normal ?_) _
  go_wp2_with fail
  go_ret
  exact⟨by simp[Act.put],q⟩
 |false=>
 cases I with
 |true=>
  have a3:=a6 rfl;subst a3;cases ao with
  |true=>
  go_enter func266,ntmps266
  go_upto_region 1 with (fail)
  refine wp_region_noPanic ?_;refine ar (λw'=>w'.cell? ⟨k,0,O⟩=W (U s)/\w'.cell? ⟨k,1,O⟩=W (V .i64 (p:Int))/\w'.cell? ⟨k,2,O⟩=W (V .i64 (d:Int))) [] (by kernel_rfl) ?_;refine ay 20 (by kernel_rfl) (λ_ _ _ _ i=>i) (by exact⟨G,C,D⟩) 29 [0,1,2,3,4,5,6,7,8,9,10,11,12,13,14,15] _ _ (by kernel_rfl) ?_;iterate 16 (refine ax (v:=?_) ?_ ?_;rotate_left;·(intro o b;(try dsimp only at b);(try obtain⟨n,l,m⟩:=b);go_simp;try with_reducible rfl);(try go_frame))
  refine xT.done ?_;try dsimp only
  refine aq [16] ?_;refine aj rfl (λK f=>?_) xQ.nil
  go_simp
  refine(E.out w.drew x.out).mono ?_;rintro e j ⟨rfl,t⟩;have q:Below w.heap.size w j:=bN t;have a:=zD (yb.below (w:=w) x.out q A);clear t;refine f.out _ _ (λ_=>(by exact⟨ae (a.out) 0,ae (a.out) 1,ae (a.out) 2⟩)) ?_;clear f K
  (try go_frame)
  refine ay 20 (by kernel_rfl) (λ_ _ _ _ i=>i) (by exact⟨ae (a.out) 0,ae (a.out) 1,ae (a.out) 2⟩) 23 [17,18,19,20,21] _ _ (by kernel_rfl) ?_;iterate 5 (refine ax (v:=?_) ?_ ?_;rotate_left;·(intro o b;(try dsimp only at b);(try obtain⟨n,l,m⟩:=b);go_simp;try with_reducible rfl);(try go_frame))
  refine xT.done ?_;try dsimp only
  refine aq [22] ?_;refine aj rfl (λK f=>?_) xQ.nil
  go_simp
  refine f.out _ _ (λ_=>(by exact⟨ae (aa (J #[V .u8 58] 5) a.out) 0,ae (aa (J #[V .u8 58] 5) a.out) 1,ae (aa (J #[V .u8 58] 5) a.out) 2⟩)) ?_;clear f K
  (try go_frame)
  refine aq [23] ?_;refine aj rfl (λK f=>?_) xQ.nil
  go_simp
  refine(L.out (j.alloc (J #[V .u8 58] 5)) j.heap.size (aa _ a.out) (eC j [58] 5)).mono ?_;rintro e S ⟨rfl,rfl⟩;have z:=F (j.alloc (J #[V .u8 58] 5));rw[show (j.alloc (J #[V .u8 58] 5)).heap.size=j.heap.size+1 by simp]at z;refine f.out _ _ (λ_=>(by exact⟨ae (aa (J #[V .u8 58] 5) a.out) 0,ae (aa (J #[V .u8 58] 5) a.out) 1,ae (aa (J #[V .u8 58] 5) a.out) 2⟩)) ?_;clear f K
  (try go_frame)
  refine ay 20 (by kernel_rfl) (λ_ _ _ _ i=>i) (by exact⟨ae (aa (J #[V .u8 58] 5) a.out) 0,ae (aa (J #[V .u8 58] 5) a.out) 1,ae (aa (J #[V .u8 58] 5) a.out) 2⟩) 19 [24,25] _ _ (by kernel_rfl) ?_;iterate 2 (refine ax (v:=?_) ?_ ?_;rotate_left;·(intro o b;(try dsimp only at b);(try obtain⟨n,l,m⟩:=b);go_simp;try with_reducible rfl);(try go_frame))
  refine xT.done ?_;try dsimp only
  refine aq [26] ?_;refine aj rfl (λK f=>?_) xQ.nil
  go_simp
  refine(a4.out _ (aa _ a.out)).mono ?_;rintro e wx ⟨rfl,M⟩;have y:=zD (yb.below (show yb (j.alloc (J #[V .u8 58] 5)) k s p d from aa _ a.out) M (by have:=lt_of_heap a.out;simp;omega));have an:=(q.alloc q.size (J #[V .u8 58] 5)).trans (M.mono (by have:=q.size;simp;omega));clear M;refine f.out _ _ (λ_=>(by exact⟨ae (y.out) 0,ae (y.out) 1,ae (y.out) 2⟩)) ?_;clear f K
  (try go_frame)
  refine ay 20 (by kernel_rfl) (λ_ _ _ _ i=>i) (by exact⟨ae (y.out) 0,ae (y.out) 1,ae (y.out) 2⟩) 0 [27,28,29,30,31,32,33,34,35,36,37,38,39,40,41,42,43,44] _ _ (by kernel_rfl) ?_;iterate 3 (refine ax (v:=?_) ?_ ?_;rotate_left;·(intro o b;(try dsimp only at b);(try obtain⟨n,l,m⟩:=b);go_simp;try with_reducible rfl);(try go_frame))
  iterate 13 (refine aB rfl (by simp only[zH,zI,zJ];rfl) (by kernel_rfl) ?_;(try go_frame))
  iterate 2 (refine ax (v:=?_) ?_ ?_;rotate_left;·(intro o b;(try dsimp only at b);(try obtain⟨n,l,m⟩:=b);go_simp;try with_reducible rfl);(try go_frame))
  refine xT.done ?_;try dsimp only
  refine aP (by kernel_rfl) (NoPanic.normal ?_) _
  go_wp2_with fail
  go_ret
  exact⟨by simp[Act.put],an⟩
  |false=>exact absurd (a2 rfl) (by decide)
 |false=>
  rcases a1 with al|al
  ·have H:=λr=>uI (d:Int) 0 r
   rw[show decide ((0:Int) < (d:Int))=false by simp;omega]at H;rw[show decide (0 < d)=false by simp;omega]
   go_enter func266,ntmps266
   go_upto_region 1 with (fail)
   refine wp_region_noPanic ?_;refine ar (λw'=>w'.cell? ⟨k,0,O⟩=W (U s)/\w'.cell? ⟨k,1,O⟩=W (V .i64 (p:Int))/\w'.cell? ⟨k,2,O⟩=W (V .i64 (d:Int))) [] (by kernel_rfl) ?_;refine ay 20 (by kernel_rfl) (λ_ _ _ _ i=>i) (by exact⟨G,C,D⟩) 29 [0,1,2,3,4,5,6,7,8,9,10,11,12,13,14,15] _ _ (by kernel_rfl) ?_;iterate 16 (refine ax (v:=?_) ?_ ?_;rotate_left;·(intro o b;(try dsimp only at b);(try obtain⟨n,l,m⟩:=b);go_simp;try with_reducible rfl);(try go_frame))
   refine xT.done ?_;try dsimp only
   refine aq [16] ?_;refine aj rfl (λK f=>?_) xQ.nil
   go_simp
   refine(E.out w.drew x.out).mono ?_;rintro e j ⟨rfl,t⟩;have q:Below w.heap.size w j:=bN t;have a:=zD (yb.below (w:=w) x.out q A);clear t;refine f.out _ _ (λ_=>(by exact⟨ae (a.out) 0,ae (a.out) 1,ae (a.out) 2⟩)) ?_;clear f K
   (try go_frame)
   refine ay 20 (by kernel_rfl) (λ_ _ _ _ i=>i) (by exact⟨ae (a.out) 0,ae (a.out) 1,ae (a.out) 2⟩) 23 [17,18,19,20,21] _ _ (by kernel_rfl) ?_;iterate 5 (refine ax (v:=?_) ?_ ?_;rotate_left;·(intro o b;(try dsimp only at b);(try obtain⟨n,l,m⟩:=b);go_simp;try with_reducible rfl);(try go_frame))
   refine xT.done ?_;try dsimp only
   refine aq [22] ?_;refine aj rfl (λK f=>?_) xQ.nil
   go_simp
   refine f.out _ _ (λ_=>(by exact⟨ae (aa (J #[V .u8 58] 5) a.out) 0,ae (aa (J #[V .u8 58] 5) a.out) 1,ae (aa (J #[V .u8 58] 5) a.out) 2⟩)) ?_;clear f K
   (try go_frame)
   refine aq [23] ?_;refine aj rfl (λK f=>?_) xQ.nil
   go_simp
   refine(L.out (j.alloc (J #[V .u8 58] 5)) j.heap.size (aa _ a.out) (eC j [58] 5)).mono ?_;rintro e S ⟨rfl,rfl⟩;have z:=F (j.alloc (J #[V .u8 58] 5));rw[show (j.alloc (J #[V .u8 58] 5)).heap.size=j.heap.size+1 by simp]at z;refine f.out _ _ (λ_=>(by exact⟨ae (aa (J #[V .u8 58] 5) a.out) 0,ae (aa (J #[V .u8 58] 5) a.out) 1,ae (aa (J #[V .u8 58] 5) a.out) 2⟩)) ?_;clear f K
   (try go_frame)
   refine ay 20 (by kernel_rfl) (λ_ _ _ _ i=>i) (by exact⟨ae (aa (J #[V .u8 58] 5) a.out) 0,ae (aa (J #[V .u8 58] 5) a.out) 1,ae (aa (J #[V .u8 58] 5) a.out) 2⟩) 0 [24,25,26,27,28,29,30,31,32,33,34,35,36,37,38,39,40,41,42,43,44] _ _ (by kernel_rfl) ?_;iterate 1 (refine ax (v:=?_) ?_ ?_;rotate_left;·(intro o b;(try dsimp only at b);(try obtain⟨n,l,m⟩:=b);go_simp;try with_reducible rfl);(try go_frame))
   iterate 2 (refine aB rfl (by simp only[zH,zI,zJ];rfl) (by kernel_rfl) ?_;(try go_frame))
   iterate 9 (refine ax (v:=?_) ?_ ?_;rotate_left;·(intro o b;(try dsimp only at b);(try obtain⟨n,l,m⟩:=b);go_simp;try with_reducible rfl);(try go_frame))
   iterate 6 (refine aB rfl (by simp only[zH,zI,zJ];rfl) (by kernel_rfl) ?_;(try go_frame))
   iterate 3 (refine ax (v:=?_) ?_ ?_;rotate_left;·(intro o b;(try dsimp only at b);(try obtain⟨n,l,m⟩:=b);go_simp;try with_reducible rfl);(try go_frame))
   refine xT.done ?_;try dsimp only
   refine aP (by kernel_rfl) (NoPanic.normal ?_) _
   go_wp2_with fail
   go_ret
   exact⟨by simp[Act.put],q.alloc q.size _⟩
  ·have H:=λr=>uI (d:Int) 0 r
   rw[show decide ((0:Int) < (d:Int))=true by simp;omega]at H;rw[show decide (0 < d)=true by simp;omega]
   go_enter func266,ntmps266
   go_upto_region 1 with (fail)
   refine wp_region_noPanic ?_;refine ar (λw'=>w'.cell? ⟨k,0,O⟩=W (U s)/\w'.cell? ⟨k,1,O⟩=W (V .i64 (p:Int))/\w'.cell? ⟨k,2,O⟩=W (V .i64 (d:Int))) [] (by kernel_rfl) ?_;refine ay 20 (by kernel_rfl) (λ_ _ _ _ i=>i) (by exact⟨G,C,D⟩) 29 [0,1,2,3,4,5,6,7,8,9,10,11,12,13,14,15] _ _ (by kernel_rfl) ?_;iterate 16 (refine ax (v:=?_) ?_ ?_;rotate_left;·(intro o b;(try dsimp only at b);(try obtain⟨n,l,m⟩:=b);go_simp;try with_reducible rfl);(try go_frame))
   refine xT.done ?_;try dsimp only
   refine aq [16] ?_;refine aj rfl (λK f=>?_) xQ.nil
   go_simp
   refine(E.out w.drew x.out).mono ?_;rintro e j ⟨rfl,t⟩;have q:Below w.heap.size w j:=bN t;have a:=zD (yb.below (w:=w) x.out q A);clear t;refine f.out _ _ (λ_=>(by exact⟨ae (a.out) 0,ae (a.out) 1,ae (a.out) 2⟩)) ?_;clear f K
   (try go_frame)
   refine ay 20 (by kernel_rfl) (λ_ _ _ _ i=>i) (by exact⟨ae (a.out) 0,ae (a.out) 1,ae (a.out) 2⟩) 23 [17,18,19,20,21] _ _ (by kernel_rfl) ?_;iterate 5 (refine ax (v:=?_) ?_ ?_;rotate_left;·(intro o b;(try dsimp only at b);(try obtain⟨n,l,m⟩:=b);go_simp;try with_reducible rfl);(try go_frame))
   refine xT.done ?_;try dsimp only
   refine aq [22] ?_;refine aj rfl (λK f=>?_) xQ.nil
   go_simp
   refine f.out _ _ (λ_=>(by exact⟨ae (aa (J #[V .u8 58] 5) a.out) 0,ae (aa (J #[V .u8 58] 5) a.out) 1,ae (aa (J #[V .u8 58] 5) a.out) 2⟩)) ?_;clear f K
   (try go_frame)
   refine aq [23] ?_;refine aj rfl (λK f=>?_) xQ.nil
   go_simp
   refine(L.out (j.alloc (J #[V .u8 58] 5)) j.heap.size (aa _ a.out) (eC j [58] 5)).mono ?_;rintro e S ⟨rfl,rfl⟩;have z:=F (j.alloc (J #[V .u8 58] 5));rw[show (j.alloc (J #[V .u8 58] 5)).heap.size=j.heap.size+1 by simp]at z;refine f.out _ _ (λ_=>(by exact⟨ae (aa (J #[V .u8 58] 5) a.out) 0,ae (aa (J #[V .u8 58] 5) a.out) 1,ae (aa (J #[V .u8 58] 5) a.out) 2⟩)) ?_;clear f K
   (try go_frame)
   refine ay 20 (by kernel_rfl) (λ_ _ _ _ i=>i) (by exact⟨ae (aa (J #[V .u8 58] 5) a.out) 0,ae (aa (J #[V .u8 58] 5) a.out) 1,ae (aa (J #[V .u8 58] 5) a.out) 2⟩) 6 [24,25,26,27,28,29,30,31,32,33,34,35,36,37,38] _ _ (by kernel_rfl) ?_;iterate 1 (refine ax (v:=?_) ?_ ?_;rotate_left;·(intro o b;(try dsimp only at b);(try obtain⟨n,l,m⟩:=b);go_simp;try with_reducible rfl);(try go_frame))
   iterate 2 (refine aB rfl (by simp only[zH,zI,zJ];rfl) (by kernel_rfl) ?_;(try go_frame))
   iterate 12 (refine ax (v:=?_) ?_ ?_;rotate_left;·(intro o b;(try dsimp only at b);(try obtain⟨n,l,m⟩:=b);go_simp;try with_reducible rfl);(try go_frame))
   refine xT.done ?_;try dsimp only
   refine aq [39] ?_;refine aj rfl (λK f=>?_) xQ.nil
   go_simp
   refine f.out _ _ (λ_=>(by exact⟨ae (aa (J #[V .u8 44,V .u8 91,V .u8 93,V .u8 123,V .u8 125] 5) (aa (J #[V .u8 58] 5) a.out)) 0,ae (aa (J #[V .u8 44,V .u8 91,V .u8 93,V .u8 123,V .u8 125] 5) (aa (J #[V .u8 58] 5) a.out)) 1,ae (aa (J #[V .u8 44,V .u8 91,V .u8 93,V .u8 123,V .u8 125] 5) (aa (J #[V .u8 58] 5) a.out)) 2⟩)) ?_;clear f K
   (try go_frame)
   refine aq [40] ?_;refine aj rfl (λK f=>?_) xQ.nil
   go_simp
   refine f.out _ _ (λ_=>(by exact⟨ae (aa (J #[V .u8 44,V .u8 91,V .u8 93,V .u8 123,V .u8 125] 5 (5,6)) (aa (J #[V .u8 58] 5) a.out)) 0,ae (aa (J #[V .u8 44,V .u8 91,V .u8 93,V .u8 123,V .u8 125] 5 (5,6)) (aa (J #[V .u8 58] 5) a.out)) 1,ae (aa (J #[V .u8 44,V .u8 91,V .u8 93,V .u8 123,V .u8 125] 5 (5,6)) (aa (J #[V .u8 58] 5) a.out)) 2⟩)) ?_;clear f K
   (try go_frame)
   refine aq [41] ?_;refine aj rfl (λK f=>?_) xQ.nil
   go_simp
   refine(av.out ((j.alloc (J #[V .u8 58] 5)).alloc (J #[V .u8 44,V .u8 91,V .u8 93,V .u8 123,V .u8 125] 5 (5,6))) (j.heap.size+1) (aa _ (aa (J #[V .u8 58] 5) a.out)) (oB _ _ _ _ _ (by simp))).mono ?_;rintro e be ⟨rfl,rfl⟩;refine f.out _ _ (λ_=>(by exact⟨ae (aa (J #[V .u8 44,V .u8 91,V .u8 93,V .u8 123,V .u8 125] 5 (5,6)) (aa (J #[V .u8 58] 5) a.out)) 0,ae (aa (J #[V .u8 44,V .u8 91,V .u8 93,V .u8 123,V .u8 125] 5 (5,6)) (aa (J #[V .u8 58] 5) a.out)) 1,ae (aa (J #[V .u8 44,V .u8 91,V .u8 93,V .u8 123,V .u8 125] 5 (5,6)) (aa (J #[V .u8 58] 5) a.out)) 2⟩)) ?_;clear f K
   (try go_frame)
   refine ay 20 (by kernel_rfl) (λ_ _ _ _ i=>i) (by exact⟨ae (aa (J #[V .u8 44,V .u8 91,V .u8 93,V .u8 123,V .u8 125] 5 (5,6)) (aa (J #[V .u8 58] 5) a.out)) 0,ae (aa (J #[V .u8 44,V .u8 91,V .u8 93,V .u8 123,V .u8 125] 5 (5,6)) (aa (J #[V .u8 58] 5) a.out)) 1,ae (aa (J #[V .u8 44,V .u8 91,V .u8 93,V .u8 123,V .u8 125] 5 (5,6)) (aa (J #[V .u8 58] 5) a.out)) 2⟩) 0 [42,43,44] _ _ (by kernel_rfl) ?_;iterate 3 (refine ax (v:=?_) ?_ ?_;rotate_left;·(intro o b;(try dsimp only at b);(try obtain⟨n,l,m⟩:=b);go_simp;try with_reducible rfl);(try go_frame))
   refine xT.done ?_;try dsimp only
   refine aP (by kernel_rfl) (NoPanic.normal ?_) _
   go_wp2_with fail
   go_ret
   exact⟨by simp[Act.put],(q.alloc q.size _).alloc (q.alloc q.size (J #[V .u8 58] 5)).size _⟩
def AZ(X:Bool)(P:Program)(gf:Nat)(lb:Array Value)(m:Nat)(g:Nat)(k:Nat->Array Value)(i j:World->World->Prop)(n:World->Prop)(w:World):Prop:=
 ∀(l:Nat) (c:Nat->World->Prop) (d:World->Prop) (f:World),Below w.heap.size w f->w.heap.size+2<=f.heap.size->(∀t b a,c t b->i b a->c t a)->(∀b a,d b->i b a->d a)->(X=false->∀b,¬d b)->
  (∀t,t < g->∀b,c t b->YieldAt Fence.wide m P l (k t) b λe a=>(e=ρ (β true)/\c (t+1) a/\j b a)\/(e=ρ (β false)/\d a))->
  c 0 f->Calls P gf (#[φ (.yield l) #[] #[]]++lb) f λe a=>(∃v,e=ρ v)/\((c g a/\n a)\/d a)
def AG(e:World->Prop)(d:Code->World->Prop)(a:Nat)(c:World->World->Prop)(b:World):Exit->Act->World->Prop
 | .normal,_,W'=>e W'/\Far (λk=>k≠a/\k≠a+1) b W'/\c b W'
 | .ret,_,W'=>d .ret W'/\Far (λk=>k≠a/\k≠a+1) b W'/\c b W'
 | .exit id,_,W'=>d (.exit id) W'/\Far (λk=>k≠a/\k≠a+1) b W'/\c b W'
 | .goto t,_,W'=>d (.goto t) W'/\Far (λk=>k≠a/\k≠a+1) b W'/\c b W'
 | .panic _,_,_=>False
 | .outgrown,_,_=>False
end Go.Proofs.YtbikgdhbiebhcaaGreatDoor
