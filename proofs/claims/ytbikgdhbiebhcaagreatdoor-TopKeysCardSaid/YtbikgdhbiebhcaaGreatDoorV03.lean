/- Part 3. -/
import Derived.Test.YtbikgdhbiebhcaaGreatDoorV02
import Derived.Maps.RangeRun
import Derived.MapKept
set_option linter.unusedVariables false
set_option linter.unusedSimpArgs false
set_option maxRecDepth 100000
set_option maxHeartbeats 2000000
open Go.Value renaming int -> V, string -> U, slice -> Y, pointer -> Z, func -> φ, agg -> γ, bool -> β
open Go.IntKind renaming i64 -> I
open Option renaming some -> W, none -> O
open Go.Obj renaming cells -> J
open Go.Ending renaming returned -> ρ
open Go.Proofs.Tryz renaming prog -> π
open Nat renaming le_refl -> η
open And renaming intro -> θ
open Go.RowKit.Below renaming refl -> ζ
namespace Go.Proofs.YtbikgdhbiebhcaaGreatDoor
open Go.RowKit Tryz
theorem eK(s:ByteArray)(i:Nat):(s.extract i s.size).data.toList=s.data.toList.drop i:=by
 rw[ByteArray.data_extract,Array.toList_extract,List.extract_eq_take_drop];exact zR (by simp only[zZ,Array.length_toList];exact η _)
theorem jn(s:ByteArray)(i:Nat):(s.extract 0 i).data.toList=s.data.toList.take i:=by
 rw[ByteArray.data_extract,Array.toList_extract,List.extract_eq_take_drop];simp
theorem dd(l:Tp.B):l.take (l.takeWhile Tp.signC).length=l.takeWhile Tp.signC:=by
 induction l with
 |nil=>rfl
 |cons c t ih=>
  cases a:Tp.signC c with
  |true=>rw[List.takeWhile_cons_of_pos a];simp[ih]
  |false=>rw[List.takeWhile_cons_of_neg (by rw[a];decide)];rfl
theorem qZ(R:UInt8)(ck:R=38\/R=42)(a:Nat)(s:ByteArray)(p d:Nat)(dC:s.size<=100000)(bm:s.data.toList[p]? =W R)(c6:Tp.isName ((s.data.toList.drop (p+1)).takeWhile Tp.signC)=true)
(c4:Tp.closed d (s.data.toList.drop (p+1+((s.data.toList.drop (p+1)).takeWhile Tp.signC).length))=true)(w:World)(ba:yb w a s p d):
 Calls π 261 #[Z (W ⟨a,0,O⟩)] w (yh w a s (p+1+((s.data.toList.drop (p+1)).takeWhile Tp.signC).length) d ⟨if R=38 then 3 else 4,(s.data.toList.drop (p+1)).takeWhile Tp.signC,p⟩):=by
 have dW:p < s.size:=by rw[<-ap];exact(zM.1 bm).1
 obtain⟨b,P⟩:∃b,(s.data.toList.drop (p+1)).takeWhile Tp.signC=b:=⟨_,rfl⟩;have dm:b.length<=s.size - (p+1):=by
  have:=(List.takeWhile_sublist Tp.signC (l:=s.data.toList.drop (p+1))).length_le;rw[P,zZ,ap]at this;exact this
 have ao:(s.extract (p+1) s.size).size=s.size - (p+1):=by rw[ByteArray.size_extract];simp
 have a6:=oU (s.extract (p+1) s.size);rw[eK,P,ao]at a6;have di:∀L,(Instr.slice 9 (U s) (W (V I ((p:Int)+1))) O O).run π L=.ok (U (s.extract (p+1) s.size)) L:=by
  intro L;rw[run_slice_string_l L 9 s underlying9 I ((p:Int)+1) (by omega) (by omega)];rfl
 have a2:((s.extract (p+1) s.size).extract 0 b.length).data.toList=b:=by rw[jn,eK,<-P,dd]
 have c2:∀L,(Instr.slice 9 (U (s.extract (p+1) s.size)) O (W (V I (b.length:Int))) O).run π L=.ok (U ((s.extract (p+1) s.size).extract 0 b.length)) L:=by
  intro L;rw[run_slice_string_h L 9 (s.extract (p+1) s.size) underlying9 I (b.length:Int) (by omega) (by rw[ao];omega)];rfl
 obtain⟨m,ch⟩:∃m,(s.extract (p+1) s.size).extract 0 b.length=m:=⟨_,rfl⟩;rw[ch]at a2 c2;obtain⟨an,c3⟩:∃an,s.extract (p+1) s.size=an:=⟨_,rfl⟩;rw[c3]at ao a6 di c2;have b8:m.size=b.length:=by rw[<-ap,a2]
 have cb:=io m (by omega) (by rw[a2,<-P];exact c6);have bb:=bT a s (p+1+b.length) d (p+1+b.length) 0 (by omega) (by omega) (by omega);rw[<-P,c4,P]at bb;obtain⟨a3,bs⟩:∃a3,yC s p [42]=a3:=⟨_,rfl⟩;have c0:a3=decide (R=42):=by
  rw[<-bs];unfold yC;rw[bm,Bool.eq_iff_iff];simp
 have dJ:IntKind.i64.wrap ((p:Int)+1)=(p:Int)+1:=zU _ (by omega);have c5:IntKind.i64.wrap ((an.size:Int) - ((s.size - (p+1) - b.length:Nat):Int))=(b.length:Int):=by rw[ao,show ((s.size - (p+1):Nat):Int) - ((s.size - (p+1) - b.length:Nat):Int)=(b.length:Int)by omega];exact zU _ (by omega)
 have ca:IntKind.i64.wrap (1+(b.length:Int))=1+(b.length:Int):=zU _ (by omega);have dn:IntKind.i64.wrap ((p:Int)+(1+(b.length:Int)))=((p+1+b.length:Nat):Int):=by rw[show (p:Int)+(1+(b.length:Int))=((p+1+b.length:Nat):Int)by omega];exact zU _ (by omega)
 obtain⟨t,b2⟩:∃t:Int,((p+1+b.length:Nat):Int)=t:=⟨_,rfl⟩;rw[b2]at dn;have cc:=zD b2;clear b2;rw[P];generalize S:((if R=38 then 3 else 4):Int)=k;have cf:=zD S;clear S;have b9:=lt_of_heap ba;have b3:yb (((w.alloc (J #[V I 0,U ⟨#[]⟩,V I 0] 305)).alloc (J #[V I 3,U ⟨#[]⟩,V I (p:Int)] 305)).alloc (J #[V .u8 42] 5)) a s p d:=aa _ (aa _ (aa _ ba));have cv:(((w.alloc (J #[V I 0,U ⟨#[]⟩,V I 0] 305)).alloc (J #[V I 3,U ⟨#[]⟩,V I (p:Int)] 305)).alloc (J #[V .u8 42] 5)).heap[w.heap.size]? =W (J #[V I 0,U ⟨#[]⟩,V I 0] 305):=aa _ (aa _ (af w _));have c9:(((w.alloc (J #[V I 0,U ⟨#[]⟩,V I 0] 305)).alloc (J #[V I 3,U ⟨#[]⟩,V I (p:Int)] 305)).alloc (J #[V .u8 42] 5)).heap[w.heap.size+1]? =W (J #[V I 3,U ⟨#[]⟩,V I (p:Int)] 305):=aa _ (ah _ _ _ (by simp));have cm:Below w.heap.size w (((w.alloc (J #[V I 0,U ⟨#[]⟩,V I 0] 305)).alloc (J #[V I 3,U ⟨#[]⟩,V I (p:Int)] 305)).alloc (J #[V .u8 42] 5)):=(((ζ _ w).alloc (η _) _).alloc (by simp) _).alloc (by simp;omega) _;have b4:RA (((w.alloc (J #[V I 0,U ⟨#[]⟩,V I 0] 305)).alloc (J #[V I 3,U ⟨#[]⟩,V I (p:Int)] 305)).alloc (J #[V .u8 42] 5)) (W ⟨w.heap.size+1+1,0,O⟩) (w.heap.size+1+1) 0 ([42].map byV):=dI _ [42] 5 _ (by simp);have bk:=cO a s p d p 0 (by omega) (by omega) (by omega) [42] (w.heap.size+1+1) 1 rfl (by omega) _ b3 b4;rw[bs]at bk;have be:=zD bk;have dA:(w.alloc (J #[V I 0,U ⟨#[]⟩,V I 0] 305)).cell? ⟨a,1,O⟩=W (V I (p:Int)):=ae (aa _ ba) 1;obtain⟨b5,cT,c1,ct,cl,co⟩:=zx6 a6 cb bb b8 a2 c0;obtain⟨dl,a4,a9,ab,a5⟩:=zx5 ck b3 cv c9 cm;clear ba b3 cv c9 cm b4 bk a6 cb bb c6 c4 bm bs c0 a2 ch c3 P ck b8 dm ao
 go_enter func261,ntmps261
 go_wp2_with fail
 refine be.out.mono ?_;rintro e M ⟨rfl,rfl⟩;generalize ((w.alloc (J #[V I 0,U ⟨#[]⟩,V I 0] 305)).alloc (J #[V I 3,U ⟨#[]⟩,V I (p:Int)] 305)).alloc (J #[V .u8 42] 5)=M at *;have cS:=zF ab.out 0 rfl;have b6:=ag ab.out 0;have S:=cf.out;clear cf;cases a3 with
 |false=>
  have av:R=38:=by
   rcases dl.out with N|N
   ·exact N
   ·have:=co.out;rw[N]at this;simp at this
  rw[if_pos av]at S;subst S;clear av
  go_upto_region 4 with (fail)
  have q:=a4.out;have v:=a9.out;have o:=ab.out;have u:=a5.out;clear cS b6 a4 a9 ab a5 be;have b1:=zF q 0 rfl;have X:=zF q 1 rfl;have ac:M.heap[w.heap.size+1]? =W (J #[V I 3,U ⟨#[]⟩,V I (p:Int)] 305 (0,0)):=o;obtain⟨A,z,C,H⟩:=zx4 q v ac u;clear q v o u ac
  go_quiet (fail)
  have q:yb (M.drewN nq) a s p d:=A.out;have v:(M.drewN nq).heap[w.heap.size]? =W (J #[V I 0,U ⟨#[]⟩,V I 0] 305 (0,0)):=z.out;have o:(M.drewN nq).heap[w.heap.size+1]? =W (J #[V I 3,U ⟨#[]⟩,V I (p:Int)] 305 (0,0)):=C.out;have u:=bM H.out nq;clear b1 X A z C H
  go_upto_region 5 with (fail)
  generalize M.drewN nq=bx at *;obtain⟨A,z,C,H⟩:=zx4 q v o u;clear q v o u
  go_wp2_with fail
  refine(b5.out bx).mono ?_;rintro e E ⟨⟨bq,rfl,a0⟩,G⟩;have dr:IntKind.i64.wrap ((an.size:Int) - (bq.size:Int))=(b.length:Int):=by rw[a0];exact c5
  have q:=A.out.below G (lt_of_heap A.out);have v:=(G.block _ (lt_of_heap z.out)).trans z.out;have o:=(G.block _ (lt_of_heap C.out)).trans C.out;have u:=(Far.of_below H.out (·=a)).below G;have b0:=zF o 1 rfl;have bw:=ag o 1;have j:yb (E.setCell ⟨w.heap.size+1,1,O⟩ (U m)) a s p d:=(Below.heap_setCell _ _ _ _ (by show a≠w.heap.size+1;omega)).trans q;have c:(E.setCell ⟨w.heap.size+1,1,O⟩ (U m)).heap[w.heap.size]? =W (J #[V I 0,U ⟨#[]⟩,V I 0] 305 (0,0)):=(Below.heap_setCell _ _ _ _ (by show w.heap.size≠w.heap.size+1;omega)).trans v;have f:(E.setCell ⟨w.heap.size+1,1,O⟩ (U m)).heap[w.heap.size+1]? =W (J #[V I 3,U m,V I (p:Int)] 305 (0,0)):=ai o 1 _;have i:Far (·=a) w (E.setCell ⟨w.heap.size+1,1,O⟩ (U m)):=u.setCell (p:=⟨w.heap.size+1,1,O⟩) (λN=>by have:w.heap.size+1 < w.heap.size:=N;omega) _;obtain⟨g,n,r,x⟩:=zx4 j c f i;clear q v o u G a0 j c f i A z C H
  go_upto_region 6 with (fail)
  clear b0 bw;generalize E.setCell ⟨w.heap.size+1,1,O⟩ (U m)=y at *;have X:=zF g.out 1 rfl;have ad:=ag g.out 1;have T:=zF r.out 1 rfl;have a1:=ct.out;have dg:IntKind.i64.wrap (1+(m.size:Int))=1+(b.length:Int):=by rw[a1];exact ca
  clear a1
  go_region
  all_goals (
   have j:yb ((y.setCell ⟨a,1,O⟩ (V I t)).drew) a s (p+1+b.length) d:=by have:=ai g.out 1 (V I t);rw[<-cc.out]at this ⊢;exact this
   have c:((y.setCell ⟨a,1,O⟩ (V I t)).drew).heap[w.heap.size]? =W (J #[V I 0,U ⟨#[]⟩,V I 0] 305 (0,0)):=(show (y.setCell ⟨a,1,O⟩ (V I t)).heap[w.heap.size]? =_ from (Below.heap_setCell _ _ _ _ (by show w.heap.size≠a;omega)).trans n.out);have f:((y.setCell ⟨a,1,O⟩ (V I t)).drew).heap[w.heap.size+1]? =W (J #[V I 3,U m,V I (p:Int)] 305 (0,0)):=(show (y.setCell ⟨a,1,O⟩ (V I t)).heap[w.heap.size+1]? =_ from (Below.heap_setCell _ _ _ _ (by show w.heap.size+1≠a;omega)).trans r.out);have i:Far (·=a) w ((y.setCell ⟨a,1,O⟩ (V I t)).drew):=(x.out.setCell (p:=⟨a,1,O⟩) (λ_=>rfl) _).drew
   go_upto_region 7 with (fail)
   clear X T ad g n r x;generalize (y.setCell ⟨a,1,O⟩ (V I t)).drew=bD at *;obtain⟨g,n,r,x⟩:=zx4 j c f i;have T:=zF f 1 rfl;clear j c f i
   go_wp2_with fail
   refine(cT.out bD).mono ?_;rintro e bR ⟨rfl,D⟩;have j:=g.out.below D (lt_of_heap g.out);have c:=(D.block _ (lt_of_heap n.out)).trans n.out;have f:=(D.block _ (lt_of_heap r.out)).trans r.out;have i:=x.out.below D;obtain⟨g,n,r,x⟩:=zx4 j c f i;clear j c f i T D
   go_wp2_with fail
   refine(c1.out bR g.out).mono ?_;rintro e bn ⟨rfl,F⟩;have j:=g.out.below F (lt_of_heap g.out);have c:=(F.block _ (lt_of_heap n.out)).trans n.out;have f:=(F.block _ (lt_of_heap r.out)).trans r.out;have i:=x.out.below F;obtain⟨g,n,x⟩:=zx3 j c i;have dc:=zF f 0 rfl;have dj:=zF f 1 rfl;have da:=zF f 2 rfl;have db:=zF c 0 rfl;have df:=zF c 1 rfl;have dp:=zF c 2 rfl;have ds:=ag c 0;have ad:=ag c 1;have dv:=ag c 2;clear j c f i F
   go_wp2_with fail
   rw[show (U m:Value)=xR b by rw[<-cl.out];rfl];exact aF results261 w bn a s (p+1+b.length) d ⟨3,b,p⟩ _ n.out g.out x.out b9 rfl rfl)
 |true=>
  have av:¬R=38:=by
   intro N;have:=co.out;rw[N]at this;simp at this
  rw[if_neg av]at S;subst S;clear av
  go_upto_region 4 with (fail)
  have q:yb (M.setCell ⟨w.heap.size+1,0,O⟩ (V I 4)) a s p d:=(Below.heap_setCell _ _ _ _ (by show a≠w.heap.size+1;omega)).trans a4.out;have v:(M.setCell ⟨w.heap.size+1,0,O⟩ (V I 4)).heap[w.heap.size]? =W (J #[V I 0,U ⟨#[]⟩,V I 0] 305):=(Below.heap_setCell _ _ _ _ (by show w.heap.size≠w.heap.size+1;omega)).trans a9.out;have o:=ai ab.out 0 (V I 4);have u:=a5.out.setCell (p:=⟨w.heap.size+1,0,O⟩) (by show w.heap.size<=w.heap.size+1;omega) (V I 4);clear cS b6 a4 a9 ab a5 be;generalize (M.setCell ⟨w.heap.size+1,0,O⟩ (V I 4))=al at *;have b1:=zF q 0 rfl;have X:=zF q 1 rfl;have ac:al.heap[w.heap.size+1]? =W (J #[V I 4,U ⟨#[]⟩,V I (p:Int)] 305 (0,0)):=o;obtain⟨A,z,C,H⟩:=zx4 q v ac u;clear q v o u ac
  go_quiet (fail)
  have q:yb (al.drewN nq) a s p d:=A.out;have v:(al.drewN nq).heap[w.heap.size]? =W (J #[V I 0,U ⟨#[]⟩,V I 0] 305 (0,0)):=z.out;have o:(al.drewN nq).heap[w.heap.size+1]? =W (J #[V I 4,U ⟨#[]⟩,V I (p:Int)] 305 (0,0)):=C.out;have u:=bM H.out nq;clear b1 X A z C H
  go_upto_region 5 with (fail)
  generalize al.drewN nq=bx at *;obtain⟨A,z,C,H⟩:=zx4 q v o u;clear q v o u
  go_wp2_with fail
  refine(b5.out bx).mono ?_;rintro e E ⟨⟨bq,rfl,a0⟩,G⟩;have dr:IntKind.i64.wrap ((an.size:Int) - (bq.size:Int))=(b.length:Int):=by rw[a0];exact c5
  have q:=A.out.below G (lt_of_heap A.out);have v:=(G.block _ (lt_of_heap z.out)).trans z.out;have o:=(G.block _ (lt_of_heap C.out)).trans C.out;have u:=(Far.of_below H.out (·=a)).below G;have b0:=zF o 1 rfl;have bw:=ag o 1;have j:yb (E.setCell ⟨w.heap.size+1,1,O⟩ (U m)) a s p d:=(Below.heap_setCell _ _ _ _ (by show a≠w.heap.size+1;omega)).trans q;have c:(E.setCell ⟨w.heap.size+1,1,O⟩ (U m)).heap[w.heap.size]? =W (J #[V I 0,U ⟨#[]⟩,V I 0] 305 (0,0)):=(Below.heap_setCell _ _ _ _ (by show w.heap.size≠w.heap.size+1;omega)).trans v;have f:(E.setCell ⟨w.heap.size+1,1,O⟩ (U m)).heap[w.heap.size+1]? =W (J #[V I 4,U m,V I (p:Int)] 305 (0,0)):=ai o 1 _;have i:Far (·=a) w (E.setCell ⟨w.heap.size+1,1,O⟩ (U m)):=u.setCell (p:=⟨w.heap.size+1,1,O⟩) (λN=>by have:w.heap.size+1 < w.heap.size:=N;omega) _;obtain⟨g,n,r,x⟩:=zx4 j c f i;clear q v o u G a0 j c f i A z C H
  go_upto_region 6 with (fail)
  clear b0 bw;generalize E.setCell ⟨w.heap.size+1,1,O⟩ (U m)=y at *;have X:=zF g.out 1 rfl;have ad:=ag g.out 1;have T:=zF r.out 1 rfl;have a1:=ct.out;have dg:IntKind.i64.wrap (1+(m.size:Int))=1+(b.length:Int):=by rw[a1];exact ca
  clear a1
  go_region
  all_goals (
   have j:yb ((y.setCell ⟨a,1,O⟩ (V I t)).drew) a s (p+1+b.length) d:=by have:=ai g.out 1 (V I t);rw[<-cc.out]at this ⊢;exact this
   have c:((y.setCell ⟨a,1,O⟩ (V I t)).drew).heap[w.heap.size]? =W (J #[V I 0,U ⟨#[]⟩,V I 0] 305 (0,0)):=(show (y.setCell ⟨a,1,O⟩ (V I t)).heap[w.heap.size]? =_ from (Below.heap_setCell _ _ _ _ (by show w.heap.size≠a;omega)).trans n.out);have f:((y.setCell ⟨a,1,O⟩ (V I t)).drew).heap[w.heap.size+1]? =W (J #[V I 4,U m,V I (p:Int)] 305 (0,0)):=(show (y.setCell ⟨a,1,O⟩ (V I t)).heap[w.heap.size+1]? =_ from (Below.heap_setCell _ _ _ _ (by show w.heap.size+1≠a;omega)).trans r.out);have i:Far (·=a) w ((y.setCell ⟨a,1,O⟩ (V I t)).drew):=(x.out.setCell (p:=⟨a,1,O⟩) (λ_=>rfl) _).drew
   go_upto_region 7 with (fail)
   clear X T ad g n r x;generalize (y.setCell ⟨a,1,O⟩ (V I t)).drew=bD at *;obtain⟨g,n,r,x⟩:=zx4 j c f i;have T:=zF f 1 rfl;clear j c f i
   go_wp2_with fail
   refine(cT.out bD).mono ?_;rintro e bR ⟨rfl,D⟩;have j:=g.out.below D (lt_of_heap g.out);have c:=(D.block _ (lt_of_heap n.out)).trans n.out;have f:=(D.block _ (lt_of_heap r.out)).trans r.out;have i:=x.out.below D;obtain⟨g,n,r,x⟩:=zx4 j c f i;clear j c f i T D
   go_wp2_with fail
   refine(c1.out bR g.out).mono ?_;rintro e bn ⟨rfl,F⟩;have j:=g.out.below F (lt_of_heap g.out);have c:=(F.block _ (lt_of_heap n.out)).trans n.out;have f:=(F.block _ (lt_of_heap r.out)).trans r.out;have i:=x.out.below F;obtain⟨g,n,x⟩:=zx3 j c i;have dc:=zF f 0 rfl;have dj:=zF f 1 rfl;have da:=zF f 2 rfl;have db:=zF c 0 rfl;have df:=zF c 1 rfl;have dp:=zF c 2 rfl;have ds:=ag c 0;have ad:=ag c 1;have dv:=ag c 2;clear j c f i F
   go_wp2_with fail
   rw[show (U m:Value)=xR b by rw[<-cl.out];rfl];exact aF results261 w bn a s (p+1+b.length) d ⟨4,b,p⟩ _ n.out g.out x.out b9 rfl rfl)
section
open Go.ChangeMaps (setBlock)
open Go.MapKept
theorem fp{w:World}{a:Nat}{x:Obj}(o:Obj)(b:w.heap[a]? =W x):(setBlock w a o).heap[a]? =W o:=by simp[setBlock,lt_of_heap b]
theorem cI{w:World}(a:Nat)(o:Obj):Far (·=a) w (setBlock w a o):=⟨rfl,rfl,rfl,by simp[setBlock],λi c b=>by simp only[setBlock];rw[Array.getElem?_setIfInBounds_ne (λe=>b e.symm)]⟩
theorem qE{w:World}{a:Nat}{c:Array MapEntry}{b:Nat}(d:w.heap[a]? =W (.map c b))(k v:Int)(i:-2147483648<=k)(f:k<=2147483647)(n:∀e∈c.toList,(∃l,keyOf π 21 e.key=W l)/\e.key≠.int .i32 k):
 ∃w',(Instr.mapUpdate 46 (.map (W a)) (.int .i32 k) (.int .i32 v)).run π w=.ok () w'/\w'.heap[a]? =W (.map (c.push ⟨.int .i32 k,.int .i32 v,b⟩) (b+1))/\Far (·=a) w w':=by
 refine⟨setBlock w a (.map (c.push ⟨.int .i32 k,.int .i32 v,b⟩) (b+1)),?_,fp _ d,cI a _⟩;rcases mA.find w (eP k i f) c.toList (λe q=>(n e q).1)with ⟨m,g⟩|⟨j,o,m,g,p⟩
 ·simp[Instr.mapUpdate,run_underlying underlying46,MapKept.run_getObj_map d,mA.check w false (eP k i f),m,MapKept.run_setObj_map _ d,Result.andThen,setBlock]
 ·exact absurd p (n o (zL g)).2
def yi:Array MapEntry:=#[⟨V .i32 10,V .i32 110,0⟩,⟨V .i32 9,V .i32 116,1⟩,⟨V .i32 13,V .i32 114,2⟩]
theorem tc(w:World):Calls π 14 #[] w λe w'=>e=ρ (.map (W w.heap.size))/\w'.heap[w.heap.size]? =W (.map yi 3)/\Below w.heap.size w w':=by
 have q:=@run_makeMap π;have f:=af w (.map #[] 0);obtain⟨o,s,j,d⟩:=qE f 10 110 (by decide) (by decide) (by simp);obtain⟨u,r,c,k⟩:=qE j 9 116 (by decide) (by decide) (by intro e a;simp at a;subst a;exact⟨⟨_,eP 10 (by decide) (by decide)⟩,by simp⟩);obtain⟨p,t,m,l⟩:=qE c 13 114 (by decide) (by decide) (by
  intro e a;simp at a
  rcases a with rfl|rfl
  ·exact⟨⟨_,eP 10 (by decide) (by decide)⟩,by simp⟩
  ·exact⟨⟨_,eP 9 (by decide) (by decide)⟩,by simp⟩)
 have g:=(((ξ (·=w.heap.size) w).alloc (.map #[] 0)).step (D':=(·=w.heap.size)) (d.trans (k.trans l)) (λi n e=>e)).to_below (η _) (λi n e=>by omega);have b:=zD (θ m g);clear f j c m g d k l
 go_enter func14,ntmps14
 go_wp2
 go_ret
 exact⟨rfl,b.out.1,b.out.2⟩
end
section
open Go.ChangeMaps (setBlock)
theorem gy(s:ByteArray)(p:Nat)(a:UInt8)(d:s.data.toList[p]? =W a)(e:a.toNat < 128):atR s p=(a.toNat:Int)/\p < s.size:=by
 have b:=zM.1 d;have c:p < s.size:=by rw[<-ap];exact b.1
 unfold atR;rw[if_pos c,zW b.1,b.2,Ln.aM _ _ e];exact⟨rfl,c⟩
theorem t8(s:ByteArray)(q:Int)(p:Nat)(b:UInt8)(z:s.size<=1000000)(o:s.data.toList[p]? =W b)(x:b.toNat=34\/b.toNat=92)(w:World)(n:Glob w):
 Calls π 329 #[rdV s q,V I (p:Int)] w λe w'=>e=ρ (yD (b.toNat:Int) ((p:Int)+1))/\Below w.heap.size w w':=by
 obtain⟨m,E⟩:=gy s p b o (by omega);have c:=dZ s q p (by omega) z;rw[m]at c;obtain⟨a,l⟩:∃a:Int,(b.toNat:Int)=a:=⟨_,rfl⟩;have t:a=34\/a=92:=by omega
 rw[l]at c ⊢;have C:IntKind.i64.wrap ((p:Int)+1)=(p:Int)+1:=zU _ (by omega);have A:¬(s.size:Int)<=(p:Int):=by omega
 have v:decide (a∈([34,92,47]:List Int))=true:=by simp;omega
 have d:=(ζ w.heap.size w).alloc (η _) (J #[U s,V .i32 q] 466);have j:=zD (c _ (n.step d));have i:=zD d;unfold rdV at j ⊢;unfold yD;clear c d n m o x l t
 go_enter func329,ntmps329
 go_wp2_with fail
 refine j.out.mono ?_;rintro e r ⟨rfl,g⟩;have f:=i.out.trans (g.mono i.out.size);have k:=(g.block w.heap.size (by simp)).trans (af w _);have u:=zD (cn a [34,92,47] _ _ 0 3 3 rfl (by omega) _ (fC r [34,92,47] 21));have y:=zD (f.alloc f.size (J #[V .i32 34,V .i32 92,V .i32 47] 21));have D:=zF k 0 rfl;clear g f k
 go_wp2_with fail
 refine u.out.mono ?_;rw[v];rintro e F ⟨rfl,rfl⟩
 go_wp2_with fail
 go_ret
 exact⟨rfl,y.out⟩
theorem t7(s:ByteArray)(q:Int)(p:Nat)(a i:UInt8)(x c:Nat)(A:s.size<=1000000)(E:s.data.toList[p]? =W 120)(D:s.data.toList[p+1]? =W a)(v:s.data.toList[p+2]? =W i)(C:Tp.unhexD a=W x)(y:Tp.unhexD i=W c)(N:x < 8)(w:World)(l:Glob w):
 Calls π 329 #[rdV s q,V I (p:Int)] w λe w'=>e=ρ (yD ((16 * x+c:Nat):Int) ((p:Int)+3))/\Below w.heap.size w w':=by
 obtain⟨z,an⟩:=gy s p 120 E (by decide);have f:=dZ s q p (by omega) A;rw[z,show ((120:UInt8).toNat:Int)=120 from rfl]at f;have ab:IntKind.i64.wrap ((p:Int)+1)=((p+1:Nat):Int):=by rw[show (p:Int)+1=((p+1:Nat):Int)by omega];exact zU _ (by omega)
 have X:¬(s.size:Int)<=(p:Int):=by omega
 have L:decide ((120:Int)∈([34,92,47]:List Int))=false:=by decide
 have g:=(ζ w.heap.size w).alloc (η _) (J #[U s,V .i32 q] 466);have u:=zD (f _ (l.step g));obtain⟨t,G⟩:=zx2 g l;have m:=λF M=>tH s q (p+1) a i x c A D v C y N F M;rw[show ((p+1:Nat):Int)+2=(p:Int)+3 by omega]at m;generalize ((p+1:Nat):Int)=al at *;generalize ((16 * x+c:Nat):Int)=ac at *;generalize (p:Int)+3=S at *;have r:=zD m;unfold rdV at u r ⊢;unfold yD at r ⊢;clear f g l z E D v C y m
 go_enter func329,ntmps329
 go_wp2_with fail
 refine u.out.mono ?_;rintro e d ⟨rfl,n⟩;have k:=t.out.trans (n.mono t.out.size);have b:=(n.block w.heap.size (by simp)).trans (af w _);have H:=zD (cn 120 [34,92,47] _ _ 0 3 3 rfl (by omega) _ (fC d [34,92,47] 21));have j:=zD (k.alloc k.size (J #[V .i32 34,V .i32 92,V .i32 47] 21));have ad:=zF b 0 rfl;have ao:∀o:Obj,(d.alloc o).cell? ⟨w.heap.size,0,O⟩=W (U s):=λo=>ae (aa o b) 0;have T:∀o:Obj,(d.alloc o).cell? ⟨w.heap.size,1,O⟩=W (V .i32 q):=λo=>ae (aa o b) 1;clear n k b
 go_wp2_with fail
 refine H.out.mono ?_;rw[L];rintro e av ⟨rfl,rfl⟩
 go_wp2_with fail
 refine(r.out _ (G.out.step j.out)).mono ?_;rintro e R ⟨rfl,P⟩
 go_wp2_with fail
 go_ret
 exact⟨rfl,j.out.trans (P.mono j.out.size)⟩
end
section
open Go.ChangeMaps (setBlock)
def Am(b a:Int):Prop:=(b=110/\a=10)\/(b=116/\a=9)\/(b=114/\a=13)
theorem jo(s:ByteArray)(q:Int)(p:Nat)(j:UInt8)(A:Int)(ca:s.size<=1000000)(a1:s.data.toList[p]? =W j)(f:Am (j.toNat:Int) A)(w:World)(a0:Glob w):
 Calls π 329 #[rdV s q,.int I (p:Int)] w λe w'=>e=ρ (yD A ((p:Int)+1))/\Below w.heap.size w w':=by
 have b9:j.toNat < 128:=by unfold Am at f;omega
 obtain⟨bD,di⟩:=gy s p j a1 b9;have F:=dZ s q p (by omega) ca;rw[bD]at F;obtain⟨d,bx⟩:∃d:Int,(j.toNat:Int)=d:=⟨_,rfl⟩;rw[bx]at F f;have c2:IntKind.i64.wrap ((p:Int)+1)=(p:Int)+1:=zU _ (by omega);have db:¬(s.size:Int)<=(p:Int):=by omega
 have c4:(d==48)=false:=by rcases f with ⟨rfl,_⟩|⟨rfl,_⟩|⟨rfl,_⟩<;>rfl
 have c5:(d==120)=false:=by rcases f with ⟨rfl,_⟩|⟨rfl,_⟩|⟨rfl,_⟩<;>rfl
 have da:(d==117)=false:=by rcases f with ⟨rfl,_⟩|⟨rfl,_⟩|⟨rfl,_⟩<;>rfl
 have df:¬d=48:=by rcases f with ⟨rfl,_⟩|⟨rfl,_⟩|⟨rfl,_⟩<;>decide
 have dg:¬d=120:=by rcases f with ⟨rfl,_⟩|⟨rfl,_⟩|⟨rfl,_⟩<;>decide
 have c9:¬d=117:=by rcases f with ⟨rfl,_⟩|⟨rfl,_⟩|⟨rfl,_⟩<;>decide
 have b2:decide (d∈([34,92,47]:List Int))=false:=by rcases f with ⟨rfl,_⟩|⟨rfl,_⟩|⟨rfl,_⟩<;>decide
 have N:=(ζ w.heap.size w).alloc (η _) (J #[.string s,.int .i32 q] 466);have a2:=zD (F _ (a0.step N));obtain⟨ba,be⟩:=zx2 N f;unfold rdV at a2 ⊢;unfold yD;clear F N a0 bD a1 f bx
 go_enter func329,ntmps329
 go_wp2_with fail
 refine a2.out.mono ?_;rintro e bn ⟨rfl,an⟩;have R:=ba.out.trans (an.mono ba.out.size);have bs:=(an.block w.heap.size (by simp)).trans (af w _);have cl:=zD (cn d [34,92,47] _ _ 0 3 3 rfl (by omega) _ (fC bn [34,92,47] 21));have a6:=zD (R.alloc R.size (J #[.int .i32 34,.int .i32 92,.int .i32 47] 21));have r:=zF bs 0 rfl;clear an R bs
 go_wp2_with fail
 refine cl.out.mono ?_;rw[b2];rintro e ao ⟨rfl,rfl⟩
 go_wp2_with fail
 generalize hW2:(bn.alloc (Obj.cells #[.int .i32 34,.int .i32 92,.int .i32 47] 21))=ao at *;refine(tc ao).mono ?_;rintro e u ⟨rfl,y,a9⟩;obtain⟨a,bb⟩:∃a,ao.heap.size=a:=⟨_,rfl⟩;rw[bb]at y;simp only[bb];have bq:=λ(t:TypeId) (b1:prog.underlying t=W (.map 21 21))=>run_range_map (P:=π) u t 21 21 a yi 3 b1 y;have ck:=bq 46 underlying46;have H:=a6.out.trans (a9.mono a6.out.size);have ct:=H.alloc H.size (.mapIter (W a) 3 #[] 3);have bm:=af u (.mapIter (W a) 3 #[] 3);have b5:=aa (.mapIter (W a) 3 #[] 3) y;obtain⟨b,hI⟩:∃b,u.heap.size=b:=⟨_,rfl⟩;have b0:a≠b:=by have:=lt_of_heap y;omega
 have b3:w.heap.size<=b:=by have:=H.size;omega
 simp only[hI]at ck bm;clear bq a9 H
 go_wp2_with fail
 generalize (u.alloc (.mapIter (W a) 3 #[] 3))=c6 at *
 go_loopw [] (λwr=>∃c r,wr.heap[b]? =W (.mapIter (W a) 3 c r)/\3<=r/\wr.heap[a]? =W (.map yi 3)/\Below w.heap.size w wr/\(∀x∈yi.toList,c.contains x.born=true->x.val≠.int .i32 d)) (λwr=>(leftOf yi (wr.iterSeen b)).size)
 case atStart=>exact⟨#[],3,bm,η _,b5,ct,λx _ T=>by simp at T⟩
 case round=>
  obtain⟨c,r,o,cc,E,ab,l⟩:=hrel;rcases run_next_at (P:=π) wr 0 b a 3 r c yi 3 o E (by decide) cc with ⟨cm,C⟩|⟨e,ad,w5,X,C⟩
  ·exfalso
   have S:=all_seen yi c cm;rcases be.out with ⟨rfl,_⟩|⟨rfl,_⟩|⟨rfl,_⟩
   ·exact l ⟨.int .i32 10,.int .i32 110,0⟩ (by simp[yi]) (S _ (by simp[yi])) rfl
   ·exact l ⟨.int .i32 9,.int .i32 116,1⟩ (by simp[yi]) (S _ (by simp[yi])) rfl
   ·exact l ⟨.int .i32 13,.int .i32 114,2⟩ (by simp[yi]) (S _ (by simp[yi])) rfl
  ·have bk:=left_shrinks yi c e ad
   have n:=(mem_left ad).1;have m:w5.heap=wr.heap:=by rcases X with rfl|rfl<;>rfl
   have G:(setBlock w5 b (.mapIter (W a) 3 (c.push e.born) 3)).heap[b]? =W (.mapIter (W a) 3 (c.push e.born) 3):=fp _ (by rw[m];exact o);have L:(setBlock w5 b (.mapIter (W a) 3 (c.push e.born) 3)).heap[a]? =W (.map yi 3):=by
    rw[(cI (w:=w5) b (.mapIter (W a) 3 (c.push e.born) 3)).block a (by rw[m];exact lt_of_heap E) (λe=>b0 e),m];exact E
   have ac:Below w.heap.size w (setBlock w5 b (.mapIter (W a) 3 (c.push e.born) 3)):=by
    have cT:Below w.heap.size w w5:=by rcases X with rfl|rfl;exact ab;exact ab.drew
    exact cT.trans ((cI (w:=w5) b _).to_below (Nat.le_of_lt (by rw[m];exact Nat.lt_of_le_of_lt b3 (lt_of_heap o))) (λi c1 e=>by omega))
   have bw:=run_entry_at (P:=π) _ b a 3 c yi 3 e G L n (by decide);have a5:∀b8,(Instr.next (.pointer (W ⟨b,0,O⟩)) false b8).run π wr=_:=λ_=>C;have co:∃k v:Int,e.key=.int .i32 k/\e.val=.int .i32 v/\(v=d->k=A):=by
    have ch:=be.out;unfold Am at ch;simp only[yi,List.mem_cons,List.not_mem_nil,or_false]at n;rcases n with rfl|rfl|rfl
    ·exact⟨10,110,rfl,rfl,by omega⟩
    ·exact⟨9,116,rfl,rfl,by omega⟩
    ·exact⟨13,114,rfl,rfl,by omega⟩
   obtain⟨k,v,M,D,a4⟩:=co;have a3:∀x∈yi.toList,(c.push e.born).contains x.born=true->x.val≠.int .i32 d\/x=e:=by
    intro x g av;rw[contains_push]at av;rcases Bool.or_eq_true _ _ ▸ av with al|al
    ·exact Or.inl (l x g al)
    ·right
     have cf:=beq_iff_eq.1 al;clear bw a5 C G L ac bk ad M D;simp only[yi,List.mem_cons,List.not_mem_nil,or_false]at n g;rcases n with rfl|rfl|rfl<;>rcases g with rfl|rfl|rfl<;>first|rfl|exact absurd cf (by decide)
   have b4:=zD a3;have cS:wr.iterSeen b=c:=by simp[World.iterSeen,o]
   have cv:(setBlock w5 b (.mapIter (W a) 3 (c.push e.born) 3)).iterSeen b=c.push e.born:=by simp only[World.iterSeen,G]
   rw[M,D]at a5 bw;obtain⟨c0,b6⟩:=zx2 D a4;clear C l a3 M D a4 o E ab X m;generalize hWX:(setBlock w5 b (.mapIter (W a) 3 (c.push e.born) 3))=wx at *;by_cases z:v=d
   ·subst z
    have bR:k=A:=b6.out rfl;subst bR
    go_wp2_with fail
    go_ret
    exact⟨rfl,ac⟩
   ·have c3:(d==v)=false:=by simpa using λe=>z e.symm
    have dc:¬d=v:=λe=>z e.symm
    go_wp2_with fail
    go_roundw
    case rel=>
     refine⟨c.push e.born,3,G,η _,L,ac,λx g cb=>?_⟩;rcases b4.out x g cb with T|rfl
     ·exact T
     ·rw[c0.out]
      intro e;injection e with _ e;exact z e
    case measure=>rw[cv,cS];exact bk
end
theorem vK(s:ByteArray)(q:Int)(p:Nat)(z:UInt8)(m:Nat)(d:s.size<=1000000)(a:Tp.escd (s.data.toList.drop p)=W (z,m))(w:World)(f:Glob w):
 Calls π 329 #[rdV s q,V I (p:Int)] w λe w'=>e=ρ (yD (z.toNat:Int) ((p+m:Nat):Int))/\Below w.heap.size w w':=by
 have i:∀k,(s.data.toList.drop p)[k]? =s.data.toList[p+k]?:=λk=>List.getElem?_drop;obtain⟨l,C⟩:∃l,s.data.toList.drop p=l:=⟨_,rfl⟩;rw[C]at a i
 match l,a with
 |c::t,a=>
  have g:s.data.toList[p]? =W c:=(i 0).symm;unfold Tp.escd at a;simp only at a;by_cases n:c.toNat=34\/c.toNat=92
  ·rw[if_pos n]at a
   injection a with a;injection a with e1 e2;subst e1 e2;rw[show ((p+1:Nat):Int)=(p:Int)+1 by omega];exact t8 s q p c d g n w f
  rw[if_neg n]at a;by_cases u:c.toNat=110
  ·rw[if_pos u]at a
   injection a with a;injection a with e1 e2;subst e1 e2;rw[show ((p+1:Nat):Int)=(p:Int)+1 by omega];exact jo s q p c 10 d g (by unfold Am;omega) w f
  rw[if_neg u]at a;by_cases A:c.toNat=116
  ·rw[if_pos A]at a
   injection a with a;injection a with e1 e2;subst e1 e2;rw[show ((p+1:Nat):Int)=(p:Int)+1 by omega];exact jo s q p c 9 d g (by unfold Am;omega) w f
  rw[if_neg A]at a;by_cases v:c.toNat=114
  ·rw[if_pos v]at a
   injection a with a;injection a with e1 e2;subst e1 e2;rw[show ((p+1:Nat):Int)=(p:Int)+1 by omega];exact jo s q p c 13 d g (by unfold Am;omega) w f
  rw[if_neg v]at a;by_cases o:c.toNat=120
  ·rw[if_pos o]at a
   match t,a with
   |h::l2::t2,a=>
    simp only at a;cases j:Tp.unhexD h with
    |none=>rw[j]at a;simp at a
    |some x=>
     cases b:Tp.unhexD l2 with
     |none=>rw[j,b]at a;simp at a
     |some y=>
      rw[j,b]at a;simp only at a;by_cases r:x < 8
      ·rw[if_pos r]at a
       injection a with a;injection a with e1 e2;subst e1 e2;have D:s.data.toList[p]? =W 120:=by rw[g,show c=120 from UInt8.toNat_inj.1 o]
       have E:y < 16:=by
        unfold Tp.unhexD at b;split at b
        ·injection b with b;omega
        ·split at b
         ·injection b with b;omega
         ·simp at b
       have:=t7 s q p h l2 x y d D (i 1).symm (i 2).symm j b r w f;rw[show (UInt8.ofNat (16 * x+y)).toNat=16 * x+y by rw[UInt8.toNat_ofNat'];exact Nat.mod_eq_of_lt (by omega),show ((p+3:Nat):Int)=(p:Int)+3 by omega];exact this
      ·rw[if_neg r]at a;simp at a
   | [],a=>simp at a
   | [_],a=>simp at a
  ·rw[if_neg o]at a;simp at a
def yZ(a:Int):Int:=if a<=127 then 1 else if a<=2047 then 2 else if a<=65535 then 3 else 4
theorem mc(a:Int)(g:0<=a)(f:a < 55296\/(57343 < a/\a<=1114111))(w:World):Calls π 330 #[V .i32 a] w λe w'=>e=ρ (V I (yZ a))/\w'=w:=by
 obtain⟨c,b⟩:∃c,yZ a=c:=⟨_,rfl⟩;have d:=zD b;rw[b];clear b;have j:¬a < 0:=by omega
 have i:a<=1114111:=by omega
 go_enter func330,ntmps330
 go_wp2_with fail
 all_goals (go_ret;have:=d.out;unfold yZ at this;simp;omega)
def yW(q:UInt8)(s:ByteArray)(p:Nat)(a:Int)(b:Nat):Prop:=
 p < s.size/\Ln.dec (s.data.toList.drop p)≠(65533,1)/\a=((Ln.dec (s.data.toList.drop p)).1:Int)/\b=p+(Ln.dec (s.data.toList.drop p)).2/\32<=a/\a≠127/\a≠(q.toNat:Int)/\a≠92
def Av(s:ByteArray)(p:Nat)(b:Int)(c:Nat):Prop:=s.data.toList[p]? =W 92/\∃a m,Tp.escd (s.data.toList.drop (p+1))=W (a,m)/\b=(a.toNat:Int)/\c=p+1+m
theorem j5(q:UInt8)(s:ByteArray)(p:Nat)(a:Int)(g:Nat)(f:yW q s p a g):(p:Int)+yZ a=(g:Int)/\(a < 55296\/(57343 < a/\a<=1114111))/\Lib.runeCells a=Lib.byteCells ((s.data.toList.drop p).take (g - p)):=by
 obtain⟨r,k,n,l,t,_⟩:=f;have j:s.data.toList.drop p≠[]:=by intro e;have:=congrArg List.length e;rw[zZ,ap]at this;simp at this;omega
 have o:=Ln.dX _ j;have i:=Lib.encode_decode _ j (by rw[<-uk];intro f;exact k (Prod.ext f.1 f.2));rw[<-uk,<-n]at i;have m:a < 55296\/(57343 < a/\a<=1114111):=by
  have:=Lib.decodeN_valid (s.data.toList.drop p).length (Ln.nat (s.data.toList.drop p) 0) (Ln.nat (s.data.toList.drop p) 1) (Ln.nat (s.data.toList.drop p) 2) (Ln.nat (s.data.toList.drop p) 3) (Ln.kq _ _);change (Ln.dec (s.data.toList.drop p)).1 < 55296\/(57343 < (Ln.dec (s.data.toList.drop p)).1/\(Ln.dec (s.data.toList.drop p)).1<=1114111)at this
  omega
 refine⟨?_,m,?_⟩
 ·have b:=congrArg List.length i
  rw[List.length_take_of_le o]at b;unfold Lib.encodeRune at b;rw[List.length_map]at b;unfold yZ;by_cases c:a<=127
  ·rw[Lib.encodeRuneZ_one (by omega) c]at b
   simp at b
   rw[if_pos c];omega
  ·by_cases d:a<=2047
   ·rw[Lib.encodeRuneZ_two (by omega) d]at b
    simp at b
    rw[if_neg c,if_pos d];omega
   ·by_cases c3:a<=65535
    ·rw[Lib.encodeRuneZ_three (by omega)]at b
     simp at b
     rw[if_neg c,if_neg d,if_pos c3];omega
    ·rw[Lib.encodeRuneZ_four (by omega) (by omega)]at b
     simp at b
     rw[if_neg c,if_neg d,if_neg c3];omega
 ·rw[l,show p+(Ln.dec (s.data.toList.drop p)).2 - p=(Ln.dec (s.data.toList.drop p)).2 by omega,<-i,Lib.byteCells_encodeRune]
theorem ke(q:UInt8)(E:q=34\/q=39)(s:ByteArray)(p:Nat)(a:Int)(b:Nat)(N:s.size<=1000000)(y:yW q s p a b)(w:World)(v:Glob w):
 Calls π 319 #[rdV s (q.toNat:Int),V I (p:Int)] w λe w'=>e=ρ (yD a (b:Int))/\Below w.heap.size w w':=by
 obtain⟨r,m,_⟩:=j5 q s p a b y;obtain⟨G,A,t,F,n,x,l,H⟩:=y;have c:=dZ s (q.toNat:Int) p (by omega) N;unfold atR at c;rw[if_pos G,<-t]at c;have D:b<=s.size:=by
  have z:s.data.toList.drop p≠[]:=by intro e;have:=congrArg List.length e;rw[zZ,ap]at this;simp at this;omega
  have P:=Ln.dX _ z;rw[zZ,ap]at P;omega
 have ac:¬(s.size:Int)<=(p:Int):=by omega
 have R:(a==(q.toNat:Int))=false:=by simpa using l
 have ab:(a==92)=false:=by simpa using H
 generalize hQ:((q.toNat:Int):Int)=Q at c R ⊢;have d:=em a;rw[show (decide (32<=a)&&!decide (a=127))=true by simp;exact⟨n,x⟩]at d;have o:=mc a (by omega) m;have ad:IntKind.i64.wrap ((p:Int)+yZ a)=(b:Int):=by rw[r];exact zU _ (by omega)
 generalize yZ a=T at *;generalize (b:Int)=av at *;have g:=(ζ w.heap.size w).alloc (η _) (J #[U s,Value.int .i32 Q] 466);have k:=zD (c _ (v.step g));obtain⟨j,L,C⟩:=zx3 g d o;unfold rdV at k ⊢;unfold yD;clear c g v A t F n x l D r m d o E hQ
 go_enter func319,ntmps319
 go_wp2_with fail
 refine k.out.mono ?_;rintro e S ⟨rfl,i⟩;have u:=j.out.trans (i.mono j.out.size);have f:=(i.block w.heap.size (by simp)).trans (af w _);have M:=zD u;have ao:=zF f 0 rfl;have al:=zF f 1 rfl;clear i u f
 go_wp2_with fail
 refine(L.out _).mono ?_;rintro e an ⟨rfl,rfl⟩
 go_wp2_with fail
 refine(C.out _).mono ?_;rintro e X ⟨rfl,rfl⟩
 go_wp2_with fail
 go_ret
 exact⟨rfl,M.out⟩
theorem vi(s:ByteArray)(p:Nat)(j:Int)(l:Nat)(u:s.size<=1000000)(z:Av s p j l)(w:World)(g:Glob w):
 Calls π 319 #[rdV s 34,V I (p:Int)] w λe w'=>e=ρ (yD j (l:Int))/\Below w.heap.size w w':=by
 obtain⟨x,q,m,v,rfl,rfl⟩:=z;obtain⟨r,N⟩:=gy s p 92 x (by decide);have a:=dZ s 34 p (by omega) u;rw[r,show ((92:UInt8).toNat:Int)=92 from rfl]at a;have o:=vK s 34 (p+1) q m u v;have F:IntKind.i64.wrap ((p:Int)+1)=((p+1:Nat):Int):=by rw[show (p:Int)+1=((p+1:Nat):Int)by omega];exact zU _ (by omega)
 have E:¬(s.size:Int)<=(p:Int):=by omega
 generalize ((p+1:Nat):Int)=M at *;generalize ((p+1+m:Nat):Int)=D at *;generalize (q.toNat:Int)=G at *;have d:=(ζ w.heap.size w).alloc (η _) (J #[U s,V .i32 34] 466);have n:=zD (a _ (g.step d));obtain⟨k,y,b⟩:=zx3 d g o;unfold rdV at n b ⊢;unfold yD at b ⊢;clear a d g r x v o
 go_enter func319,ntmps319
 go_wp2_with fail
 refine n.out.mono ?_;rintro e C ⟨rfl,i⟩;have t:=k.out.trans (i.mono k.out.size);have c:=(i.block w.heap.size (by simp)).trans (af w _);have f:=zD t;have H:=zF c 0 rfl;have L:=zF c 1 rfl;clear i t c
 go_wp2_with fail
 refine(b.out _ (y.out.step f.out)).mono ?_;rintro e P ⟨rfl,A⟩
 go_wp2_with fail
 go_ret
 exact⟨rfl,f.out.trans (A.mono f.out.size)⟩
def Aj(a:Int):Value:=.iface 473 (γ #[V I a])
theorem qS(s:ByteArray)(p:Nat)(m:s.size<=1000000)(l:s.data.toList[p]? =W 34)(w:World)(k:Glob w):
 Calls π 319 #[rdV s 34,V I (p:Int)] w λe w'=>e=ρ (Aj ((p+1:Nat):Int))/\Below w.heap.size w w':=by
 obtain⟨i,x⟩:=gy s p 34 l (by decide);have a:=dZ s 34 p (by omega) m;rw[i,show ((34:UInt8).toNat:Int)=34 from rfl]at a;have r:IntKind.i64.wrap ((p:Int)+1)=((p+1:Nat):Int):=by rw[show (p:Int)+1=((p+1:Nat):Int)by omega];exact zU _ (by omega)
 have q:¬(s.size:Int)<=(p:Int):=by omega
 generalize ((p+1:Nat):Int)=v at *;have c:=(ζ w.heap.size w).alloc (η _) (J #[U s,V .i32 34] 466);have g:=zD (a _ (k.step c));have f:=zD c;unfold rdV at g ⊢;unfold Aj;clear a c k i l
 go_enter func319,ntmps319
 go_wp2_with fail
 refine g.out.mono ?_;rintro e o ⟨rfl,d⟩;have j:=f.out.trans (d.mono f.out.size);have b:=(d.block w.heap.size (by simp)).trans (af w _);have n:=zD j;have t:=zF b 0 rfl;have u:=zF b 1 rfl;clear d j b
 go_wp2_with fail
 go_ret
 exact⟨rfl,n.out⟩
theorem wW(s:ByteArray)(i:Nat)(c:s.data.toList[i]?≠W 39):atR s i≠39:=by
 unfold atR;by_cases b:i < s.size
 ·rw[if_pos b]
  rw[<-ap]at b;rw[zE b]at c;rw[zW b];generalize s.data.toList[i]=a at c ⊢;generalize s.data.toList.drop (i+1)=t;by_cases d:a.toNat < 128
  ·rw[Ln.aM a t d]
   intro e;exact c (by rw[show a=39 from UInt8.toNat_inj.1 (by show a.toNat=39;simp only at e;omega)])
  ·obtain⟨g,f⟩:=Ln.c8 (a::t) (show 128<=a.toNat by omega)
   omega
 ·rw[if_neg b];decide
theorem qR(s:ByteArray)(p:Nat)(u:s.size<=1000000)(y:s.data.toList[p]? =W 39)(v:s.data.toList[p+1]?≠W 39)(w:World)(k:Glob w):
 Calls π 319 #[rdV s 39,V I (p:Int)] w λe w'=>e=ρ (Aj ((p+1:Nat):Int))/\Below w.heap.size w w':=by
 obtain⟨r,N⟩:=gy s p 39 y (by decide);have d:=dZ s 39 p (by omega) u;rw[r,show ((39:UInt8).toNat:Int)=39 from rfl]at d;have G:IntKind.i64.wrap ((p:Int)+1)=((p+1:Nat):Int):=by rw[show (p:Int)+1=((p+1:Nat):Int)by omega];exact zU _ (by omega)
 have D:¬(s.size:Int)<=(p:Int):=by omega
 have f:=dZ s 39 (p+1) (by omega) u;obtain⟨c,g⟩:∃c,atR s (p+1)=c:=⟨_,rfl⟩;have E:(c==39)=false:=by rw[<-g];simpa using wW s (p+1) v
 rw[g]at f;generalize ((p+1:Nat):Int)=M at *;have i:=(ζ w.heap.size w).alloc (η _) (J #[U s,V .i32 39] 466);have q:=zD (d _ (k.step i));obtain⟨o,n,z⟩:=zx3 i f k;unfold rdV at q n ⊢;unfold Aj;clear d f i k r y v g
 go_enter func319,ntmps319
 go_wp2_with fail
 refine q.out.mono ?_;rintro e C ⟨rfl,l⟩;have t:=o.out.trans (l.mono o.out.size);have a:=(l.block w.heap.size (by simp)).trans (af w _);have j:=zD t;have H:=zF a 0 rfl;have L:=zF a 1 rfl;have x:=zD a;clear l t a
 go_wp2_with fail
 refine(n.out _ (z.out.step j.out)).mono ?_;rintro e R ⟨rfl,m⟩;have A:=j.out.trans (m.mono j.out.size);have b:=(m.block w.heap.size (lt_of_heap x.out)).trans x.out;have P:=zF b 0 rfl;have F:=zF b 1 rfl;clear m b
 go_wp2_with fail
 go_ret
 exact⟨rfl,A⟩
theorem vj(q:UInt8)(d:q=34\/q=39)(s:ByteArray)(p:Nat)(a:s.size<=1000000)(b:s.data.toList[p]? =W q)(f:q=39->s.data.toList[p+1]?≠W 39)(w:World)(c:Glob w):
 Calls π 319 #[rdV s (q.toNat:Int),V I (p:Int)] w λe w'=>e=ρ (Aj ((p+1:Nat):Int))/\Below w.heap.size w w':=by
 rcases d with rfl|rfl
 ·exact qS s p a b w c
 ·exact qR s p a b (f rfl) w c
section
attribute [local go_sem ↓] Go.wp_at_zero Go.wp_at_succ
attribute [local go_sem] ak
theorem Glob.far{D:NS}{b c:World}(a:Glob b)(d:Far D b c)(e:∀k,k < 10->¬D k):Glob c:=a.keep (d.to_below a.1 e) (η _)
theorem jl{D:NS}{a b:World}(c:Below a.heap.size a b):Far D a b:=(ξ _ a).below c
def A2(q:UInt8)(s:ByteArray)(p:Nat)(x:Int × Nat):Prop:=yW q s p x.1 x.2\/(q=34/\Av s p x.1 x.2)
def zy(q:UInt8)(s:ByteArray):Nat->List (Int × Nat)->Nat->Prop
 |p,[],e=>(s.data.toList[p]? =W q/\(q=39->s.data.toList[p+1]?≠W 39))/\e=p+1
 |p,x::l,e=>A2 q s p x/\zy q s x.2 l e
theorem rO(l:Tp.B)(b:UInt8)(m:Nat)(a:Tp.escd l=W (b,m)):1<=m/\m<=l.length:=by
 unfold Tp.escd at a
 match l,a with
 |c::t,a=>
  simp only at a;split at a
  ·injection a with a;injection a with _ a;subst a;simp
  split at a
  ·injection a with a;injection a with _ a;subst a;simp
  split at a
  ·injection a with a;injection a with _ a;subst a;simp
  split at a
  ·injection a with a;injection a with _ a;subst a;simp
  split at a
  ·match t,a with
   |x::y::t2,a=>
    simp only at a;split at a
    ·split at a
     ·injection a with a;injection a with _ a;subst a;simp
     ·simp at a
    ·simp at a
   | [],a=>simp at a
   | [_],a=>simp at a
  ·simp at a
theorem uS(q:UInt8)(s:ByteArray)(p:Nat)(x:Int × Nat)(a:A2 q s p x):p < x.2/\x.2<=s.size:=by
 rcases a with a|a
 ·obtain⟨d,b,n,j,_⟩:=a
  have c:s.data.toList.drop p≠[]:=by intro e;have:=congrArg List.length e;rw[zZ,ap]at this;simp at this;omega
  have g:=Ln.dX _ c;have o:=Ln.dq (s.data.toList.drop p);rw[zZ,ap]at g;omega
 ·obtain⟨_,i,l,m,f,_,k⟩:=a
  have d:=(gy s p 92 i (by decide)).2;have b:=rO _ _ _ f;rw[zZ,ap]at b;omega
theorem bA(q:UInt8)(d:q=34\/q=39)(s:ByteArray)(p:Nat)(x:Int × Nat)(b:s.size<=1000000)(a:A2 q s p x)(w:World)(c:Glob w):
 Calls π 319 #[rdV s (q.toNat:Int),V I (p:Int)] w λe w'=>e=ρ (yD x.1 (x.2:Int))/\Below w.heap.size w w':=by
 rcases a with a|⟨rfl,a⟩
 ·exact ke q d s p _ _ b a w c
 ·exact vi s p _ _ b a w c
def Aq(a:List (Int × Nat))(e:Nat)(t:Nat):Value:=match a[t]? with
 |some x=>yD x.1 (x.2:Int)
 |none=>Aj (e:Int)
def Ae(w:World)(a:Nat):Nat:=(Lib.intOf ((w.cell? ⟨a,0,O⟩).getD undef)).toNat
theorem vk(b n:Int)(a:World):(Go.method 469 471 (γ #[V .i32 b,V I n]) "sigillary/quote.next").run π a=.ok (394,γ #[V .i32 b,V I n]) a:=by kernel_rfl
theorem we(b n:Int)(a:World):(Instr.typeAssert (.iface 471 (γ #[V .i32 b,V I n])) 469 471 true).run π a=.ok (.tuple #[γ #[V .i32 b,V I n],β true]) a:=by kernel_rfl
theorem v8(n:Int)(a:World):(Instr.typeAssert (.iface 473 (γ #[V I n])) 469 471 true).run π a=.ok (.tuple #[γ #[V .i32 0,V I 0],β false]) a:=by kernel_rfl
theorem tM(a n:Int)(w:World):Calls π 394 #[γ #[V .i32 a,V I n]] w λe w'=>e=ρ (V I n)/\Below w.heap.size w w':=by
 go_enter func394,ntmps394
 go_wp2
 go_ret
 exact⟨rfl,(ζ _ _).alloc (η _) _⟩
theorem oI(s:ByteArray)(q p:Int)(w:World):Calls π 303 #[rdV s q,V I p] w λe w'=>e=ρ (φ (.func 318) #[] #[Z (W ⟨w.heap.size,0,O⟩),Z (W ⟨w.heap.size+1,0,O⟩)])/\w'=(w.alloc (J #[U s,V .i32 q] 466)).alloc (J #[V I p] 3):=by
 unfold rdV
 go_enter func303,ntmps303
 go_wp2
 go_ret
 exact⟨rfl,rfl⟩
def PcE(c:List (Int × Nat))(g e i:Nat)(t:Nat)(v:Array Value)(d:NS)(b:World):Prop:=
 (v=#[Aq c g t]/\d=xO)/\(∃a f,b.heap[e]? =W (J #[a,f] 466 (0,0)))/\∃n,b.heap[i]? =W (J #[n] 3 (0,0))
theorem mn(q:UInt8)(bx:q=34\/q=39)(s:ByteArray)(cl:s.size<=1000000)(f:List (Int × Nat))(ao b0 g b:Nat)(dJ:g≠b)(ex:10<=g)(dA:10<=b)(dp:zy q s b0 f ao)(w:World)(M:w.heap[g]? =some (.cells #[U s,V .i32 (q.toNat:Int)] 466 (0,0)))(an:w.heap[b]? =some (.cells #[V I (b0:Int)] 3 (0,0)))(a6:Glob w):
 yQ π 318 #[Z (some ⟨g,0,O⟩),Z (some ⟨b,0,O⟩)] 3 (f.length+1) (PcE f ao g b) (·=b) (λk=>k < 10\/k=g) False (λ_ _=>True) (λ_=>True) w:=by
 intro l J ej ca W al dl hF0 a5 db da ck d2;have c9:∀k,ca k->10<=k/\k≠g/\k≠b:=λk a=>by have:=hF0 k a;omega
 replace M:=(al.block _ (lt_of_heap M)).trans M
 replace an:=(al.block _ (lt_of_heap an)).trans an
 replace a6:=a6.step al
 obtain⟨base,cb⟩:∃ds,w.heap.size=ds:=⟨_,rfl⟩;rw[cb]at a5 db;have b4:=bA q bx s;have bk:=vj q bx s;obtain⟨Q,bw⟩:∃Q:Int,(q.toNat:Int)=Q:=⟨_,rfl⟩;rw[bw]at M;simp only[bw]at b4 bk;obtain⟨v,bR⟩:∃v,f.length=v:=⟨_,rfl⟩;obtain⟨bq,c0,ep,F,di,dg⟩:=zx6 a5 ck da bR b4 bk;have dj:=zD c9;rw[bR];clear a5 ck bR bx bw b4 bk c9 hF0 da db al dl cb
 go_enter func318,ntmps318
 go_wp2_with fail
 go_step3
 go_wp2_with fail
 go_step3
 go_wp2_with fail
 go_loopw [] (λwr=>∃(t p:Nat) (i:NS),wr.heap[g]? =some (.cells #[U s,V .i32 Q] 466 (0,0))/\wr.heap[b]? =some (.cells #[V I (p:Int)] 3 (0,0))/\zy q s p (f.drop t) ao/\t<=v/\Glob wr/\J t i wr/\(∀k,i k->10<=k/\k≠g/\k≠b)) (λwr=>s.size+1 - Ae wr b)
 case atStart=>exact⟨0,b0,ca,M,an,dp,z_ _,a6,d2,dj.out⟩
 case round=>
  obtain⟨t,p,i,y,G,a0,eq,A,av,ch⟩:=hrel;have c4:=zF y 0 rfl;have cf:=zF y 1 rfl;have a3:=zF G 0 rfl;have d5:Ae wr b=p:=by simp[Ae,a3,Lib.intOf]
  have ac:=zD ch;clear ch;by_cases ab:t < v
  ·have a9:t < f.length:=by rw[F.out];exact ab
   have c1:RowKit.Hid (t+1<=v):=zD ab;rw[zW a9]at a0;obtain⟨r,a2⟩:=a0;obtain⟨x,o⟩:∃x,f[t]'a9=x:=⟨_,rfl⟩;rw[o]at r a2;have c3:f[t]? =some x:=by rw[zE a9,o]
   have d4:=uS q s p x r;have d:=di.out p x cl r wr A;have m:Aq f ao t=yD x.1 (x.2:Int):=by unfold Aq;rw[c3]
   obtain⟨j,n⟩:=x;have dr:=vk j (n:Int);have cm:=we j (n:Int);have b1:=tM j (n:Int);simp only at d d4 a2 dr b1 m cm;unfold yD at d m;unfold rdV at d;obtain⟨b2,d1,bn,d0,dn,P⟩:=zx6 m a2 d b1 A y;have S:=zD G;clear r a2 d o c3 b1 A y G ab m
   go_wp2_with fail
   refine bn.out.mono ?_;rintro e H ⟨rfl,c⟩;have L:J t i (H.alloc (.cells #[V .i32 j,V I (n:Int)] 471)):=bq.out t i _ _ av ((jl c).alloc _);have N:=aa (.cells #[V .i32 j,V I (n:Int)] 471) ((c.block _ (lt_of_heap P.out)).trans P.out);have z:=aa (.cells #[V .i32 j,V I (n:Int)] 471) ((c.block _ (lt_of_heap S.out)).trans S.out);have c5:=dn.out.step (c.alloc c.size (.cells #[V .i32 j,V I (n:Int)] 471));obtain⟨ef,D,E,bs⟩:=zx4 c5 N z L;clear c5 N z L c av c4 cf a3
   go_upto_region 2 with (fail)
   refine(wpIn_wide (n:=4)).1 ?_;generalize hW1:(H.alloc (.cells #[V .i32 j,V I (n:Int)] 471))=b3 at *;obtain⟨d6,dW,assign,body,ba,T⟩:=c0.out t (by rw[F.out];exact zK (Nat.lt_of_succ_le c1.out) (Nat.le_succ _)) i xO _ b3 bs.out ⟨⟨rfl,rfl⟩,⟨_,_,D.out⟩,_,E.out⟩ (λ_ a=>a.elim);rw[b2.out]at ba;have bD:=zD T;clear T
   gi_wp2
   refine(bD.out).mono ?_;rintro e a4 ⟨u,⟨C,be⟩,(⟨rfl,a1⟩|⟨rfl,o⟩)⟩
   ·have cv:=C.heap D.out (λa=>(ac.out _ a).2.1 rfl)
    have c2:=C.heap E.out (λa=>(ac.out _ a).2.2 rfl);have co:=ef.out.far C (λk en a=>by have:=(ac.out _ a).1;omega);have b8:∀k,u k->10<=k/\k≠g/\k≠b:=by
     intro k a;rcases be k a with a|a|a
     ·exact ac.out k a
     ·exact a.elim
     ·have ek:=lt_of_heap D.out
      have er:=lt_of_heap E.out;omega
    obtain⟨cS,d3,dc,cc,b5⟩:=zx5 b8 a1 co cv c2;clear a1 C be b8 co cv c2
    gi_wp2
    go_wp2_with fail
    refine(d0.out a4).mono ?_;rintro e dv ⟨rfl,R⟩;have X:=(R.block _ (lt_of_heap b5.out)).trans b5.out;have b6:=(R.block _ (lt_of_heap cc.out)).trans cc.out;have es:=zF X 0 rfl;have el:=ag X 0;have cT:=bq.out (t+1) u _ _ d3.out ((jl R).setCell (p:=⟨b,0,O⟩) (λ_=>⟨λa=>(cS.out _ a).2.2 rfl,.inl rfl⟩) (V I (n:Int)));have ct:=dc.out.keep ((R.mono (show 10<=a4.heap.size from dc.out.1)).setCell (p:=⟨b,0,O⟩) dA (V I (n:Int))) (η _);obtain⟨dC,eg,c6,dm⟩:=zx4 ct cT X b6;clear cT ct X b6 R
    go_wp2_with fail
    go_roundw
    case rel=>exact⟨t+1,n,u,(Below.heap_setCell _ _ _ _ dJ).trans dm.out,ai c6.out 0 _,d1.out,c1.out,dC.out,eg.out,cS.out⟩
    case measure=>
     rw[show Ae (dv.setCell ⟨b,0,O⟩ (V I (n:Int))) b=n by simp[Ae,ae (ai c6.out 0 (V I (n:Int))) 0,Lib.intOf],d5];omega
   ·gi_wp2
    go_wp2_with fail
    rw[Exit.noGoto_normal]
    go_end0
    exact⟨⟨_,rfl⟩,.inr ⟨u,o⟩⟩
  ·have df:t=v:=by omega
   subst df;rw[List.drop_eq_nil_of_le (by rw[F.out];omega)]at a0;obtain⟨⟨r,b9⟩,rfl⟩:=a0;have d:=dg.out p cl r b9 wr A;obtain⟨ad,bb⟩:∃ad:Int,((p+1:Nat):Int)=ad:=⟨_,rfl⟩;have m:Aq f (p+1) t=Aj ad:=by unfold Aq;rw[show f[t]? =O from List.getElem?_eq_none (by rw[F.out];omega),<-bb]
   rw[bb]at d;have cm:=v8 ad;unfold Aj at d m;unfold rdV at d;obtain⟨bn,b2,P,S⟩:=zx4 d m y G;clear r b9 d A y G ab bb m
   go_wp2_with fail
   refine bn.out.mono ?_;rintro e H ⟨rfl,c⟩;have L:J t i (H.alloc (.cells #[V .i32 0,V I 0] 471)):=bq.out t i _ _ av ((jl c).alloc _);have N:=aa (.cells #[V .i32 0,V I 0] 471) ((c.block _ (lt_of_heap P.out)).trans P.out);have z:=aa (.cells #[V .i32 0,V I 0] 471) ((c.block _ (lt_of_heap S.out)).trans S.out);obtain⟨D,E,bs⟩:=zx3 N z L;clear L c av c4 cf a3 N z
   go_upto_region 2 with (fail)
   refine(wpIn_wide (n:=4)).1 ?_;generalize hW1:(H.alloc (.cells #[V .i32 0,V I 0] 471))=b3 at *;obtain⟨d6,dW,assign,body,ba,T⟩:=c0.out t (by rw[F.out];omega) i xO _ b3 bs.out ⟨⟨rfl,rfl⟩,⟨_,_,D.out⟩,_,E.out⟩ (λ_ a=>a.elim);rw[b2.out]at ba;have bD:=zD T;clear T
   gi_wp2
   refine(bD.out).mono ?_;rintro e a4 ⟨u,⟨C,be⟩,(⟨rfl,a1⟩|⟨rfl,o⟩)⟩
   ·gi_wp2
    go_wp2_with fail
    rw[Exit.noGoto_normal]
    go_end0
    exact⟨⟨_,rfl⟩,.inl ⟨u,a1,trivial⟩⟩
   ·gi_wp2
    go_wp2_with fail
    rw[Exit.noGoto_normal]
    go_end0
    exact⟨⟨_,rfl⟩,.inr ⟨u,o⟩⟩
end
def Bd(B a:Nat)(b:List Value)(w:World):Prop:=
 ∃p v,(p=Z O\/p=Z (W ⟨a,0,O⟩))/\w.heap[a]? =W (J #[p,v] 38 (0,0))/\w.ownsRowF B 5 1 v b.length b/\v.ownBlock≠W a
theorem dE{w:World}{B B':Nat}{e:TypeId}{size:Nat}{v:Value}{n:Nat}{xs:List Value}(a:w.ownsRowF B e size v n xs)(i:B'<=B):w.ownsRowF B' e size v n xs:=by
 refine⟨a.1,?_⟩;rcases a.2 with d|⟨g,cap,b,c,rfl,f,rest⟩
 ·exact .inl d
 ·exact .inr ⟨g,cap,b,c,rfl,by omega,rest⟩
theorem tp{D:Nat->Prop}{w w':World}{base:Nat}{e:TypeId}{size:Nat}{v:Value}{n:Nat}{xs:List Value}(c:w.ownsRowF base e size v n xs)(j:Far D w w')(d:∀k,base<=k->k < w.heap.size->¬D k):w'.ownsRowF base e size v n xs:=by
 refine⟨c.1,?_⟩;rcases c.2 with l|⟨g,cap,i,f,rfl,a,b,rest⟩
 ·exact .inl l
 ·exact .inr ⟨g,cap,i,f,rfl,a,j.heap b (d g a (lt_of_heap b)),rest⟩
theorem Bd.far{B a:Nat}{c:List Value}{D:Nat->Prop}{w w':World}(d:Bd B a c w)(b:Far D w w')(i:¬D a)(l:∀k,B<=k->k < w.heap.size->¬D k):Bd B a c w':=by
 obtain⟨p,v,g,e,j,f⟩:=d;exact⟨p,v,g,b.heap e i,tp j b l,f⟩
theorem Bd.is{B a:Nat}{f:List Value}{w:World}(j:Bd B a f w){B':Nat}(e:B'<=B)(c:B'<=a):Lib.IsBuilderF 38 5 B' a f w:=by
 obtain⟨p,v,i,d,b,g⟩:=j;rcases i with rfl|rfl
 ·exact .inl ⟨c,v,d,dE b e,g⟩
 ·exact .inr ⟨c,v,d,dE b e,g⟩
theorem Bd.new(w:World)(a B:Nat)(b:a=w.heap.size):Bd B a [] (w.alloc (J #[Z O,Y O 0 0] 38)):=
 ⟨_,_,.inl rfl,ah _ _ _ b,World.ownsRowF_nil _ _ _ _,by simp[Value.ownBlock]⟩
theorem wV(B a:Nat)(d:List Value)(w:World)(k:Bd B a d w):
 Calls π 30 #[Z (W ⟨a,0,O⟩)] w λe w'=>e=ρ (.tuple #[])/\(∃v,w'.heap[a]? =W (J #[Z (W ⟨a,0,O⟩),v] 38 (0,0))/\w'.ownsRowF B 5 1 v d.length d/\v.ownBlock≠W a)/\Far (·=a) w w':=by
 obtain⟨p,v,q,f,b,c⟩:=k;rcases q with rfl|rfl
 ·have k:=(Bd.is (B':=0) ⟨_,v,.inl rfl,f,b,c⟩ (z_ _) (z_ _))
  have i:Lib.BuilderAtF 38 5 0 a (Z O) d w:=⟨z_ _,v,f,dE b (z_ _),c⟩;refine(gv a w i.cell0 i.shape i.frozen0).mono ?_;rintro e w' ⟨rfl,rfl⟩;have j:Far (·=a) w (w.setCell ⟨a,0,O⟩ (Z (W ⟨a,0,O⟩))):=(ξ (·=a) w).setCell (p:=⟨a,0,O⟩) (λ_=>rfl) _;refine⟨rfl,⟨v,ai f 0 _,?_,c⟩,j⟩;refine⟨b.1,?_⟩;rcases b.2 with l|⟨g,cap,o,n,rfl,m,r,rest⟩
  ·exact .inl l
  ·refine .inr ⟨g,cap,o,n,rfl,m,j.heap r (λe=>c (by rw[e];rfl)),rest⟩
 ·have i:Lib.BuilderAtF 38 5 0 a (Z (W ⟨a,0,O⟩)) d w:=⟨z_ _,v,f,dE b (z_ _),c⟩
  refine(iD a w i.cell0).mono ?_;rintro e w' ⟨rfl,rfl⟩;exact⟨rfl,⟨v,f,b,c⟩,ξ _ _⟩
theorem rN{B b:Nat}{w a c:World}{v:Value}(g:Far (·=b) w a)(i:a.grownBy c v.ownBlock)(f:∀k,v.ownBlock=W k->B<=k/\k < a.heap.size):Far (λk=>k=b\/B<=k) w c:=
 (g.mono (λ_ _ e=>.inl e)).grown i (λk d _=>.inr (f k d).1)
theorem Bd.put{B a:Nat}{p v b:Value}{bs':List Value}{w:World}(g:p=Z O\/p=Z (W ⟨a,0,O⟩))(f:w.heap[a]? =W (J #[p,v] 38 (0,0)))(c:w.ownsRowF B 5 1 b bs'.length bs'):Bd B a bs' (w.setCell ⟨a,1,O⟩ b):=by
 have d:=Lib.ownBlock_neF c f Tryz.Builder_Extra_169.neB5;refine⟨p,b,g,?_,?_,d⟩
 ·simp[World.setCell,Array.getElem?_modify,f]
 ·exact c.kept (row:=W a) ⟨rfl,rfl,rfl,by simp[World.setCell],λk _ i=>Below.heap_setCell _ _ _ _ (λe=>i (by simp[e]))⟩ (Or.inr d)
theorem xq(B a:Nat)(b:List Value)(f:Int)(E:-2147483648<=f)(G:f<=2147483647)(w:World)(H:Bd B a b w)(T:b.length+4<=140737488355328)(F:B<=w.heap.size):
 Calls π 13 #[Z (W ⟨a,0,O⟩),V .i32 f] w λe w'=>(∃n:Int,e=ρ (.tuple #[V I n,.nilIface]))/\Bd B a (b++Lib.runeCells f) w'/\Far (λk=>k=a\/B<=k) w w':=by
 go_enter func13,ntmps13
 go_wp2_with (go_at_call 30;refine(wV B a b _ H).mono ?_)
 rintro e j ⟨rfl,⟨v,l,r,y⟩,u⟩;have S:j.cell? ⟨a,0,O⟩=W (Z (W ⟨a,0,O⟩)):=by rw[Lib.cell_of_heap l];rfl
 have X:j.cell? ⟨a,1,O⟩=W v:=by rw[Lib.cell_of_heap l];rfl
 have L:=utf8_AppendRune_row B v b.length b f E G j r (by omega) (Nat.le_trans F u.size);obtain⟨i,d,cap,rfl⟩:∃i d cap,v=Y i d cap:=by
  rcases r.2 with ⟨c,_⟩|⟨g,cap,D,A,c,_⟩
  ·exact⟨_,_,_,c⟩
  ·exact⟨_,_,_,c⟩
 go_wp2_with (go_at_call 31;refine L.mono ?_)
 rintro e q ⟨z,rfl,t,o,M⟩;have x:a < j.heap.size:=lt_of_heap l;have s:=(World.grownBy_alloc j o _).trans M;have m:q.heap[a]? =W (J #[Z (W ⟨a,0,O⟩),Y i d cap] 38 (0,0)):=by
  rw[s.block a x (λe=>y e.symm)];exact l
 have ab:q.cell? ⟨a,0,O⟩=W (Z (W ⟨a,0,O⟩)):=by rw[Lib.cell_of_heap m];rfl
 have R:q.cell? ⟨a,1,O⟩=W (Y i d cap):=by rw[Lib.cell_of_heap m];rfl
 have P:q.frozen? ⟨a,1,O⟩=false:=Lib.frozen_of_heap m 1;obtain⟨ac,ad,N,rfl⟩:∃i d cap,z=Y i d cap:=by
  rcases t.2 with ⟨c,_⟩|⟨g,cap,D,A,c,_⟩
  ·exact⟨_,_,_,c⟩
  ·exact⟨_,_,_,c⟩
 go_wp2
 go_ret2
 exact⟨⟨_,rfl⟩,Bd.put (.inr rfl) m (bs':=b++Lib.runeCells f) (by simpa using t),(rN u s (λk C=>r.lt k C)).setCell (p:=⟨a,1,O⟩) (λ_=>.inl rfl) _⟩
theorem na(b:UInt8)(x:Nat)(a:Tp.unhexD b=W x):b.toNat < 128/\x < 16:=by
 unfold Tp.unhexD at a;split at a
 ·injection a with a;omega
 ·split at a
  ·injection a with a;omega
  ·simp at a
theorem tX(t:Tp.B)(f:UInt8)(m:Nat)(b:Tp.escd t=W (f,m)):f.toNat < 128/\∀g∈t.take m,g.toNat < 128:=by
 unfold Tp.escd at b
 match t,b with
 |g::t,b=>
  simp only at b;split at b
  ·injection b with b;injection b with h1 b;subst b h1
   refine⟨by omega,?_⟩;intro x c;simp at c;subst c;omega
  split at b
  ·injection b with b;injection b with h1 b;subst b h1
   refine⟨by decide,?_⟩;intro x c;simp at c;subst c;omega
  split at b
  ·injection b with b;injection b with h1 b;subst b h1
   refine⟨by decide,?_⟩;intro x c;simp at c;subst c;omega
  split at b
  ·injection b with b;injection b with h1 b;subst b h1
   refine⟨by decide,?_⟩;intro x c;simp at c;subst c;omega
  split at b
  ·match t,b with
   |x::y::t2,b=>
    simp only at b;cases c:Tp.unhexD x with
    |none=>rw[c]at b;simp at b
    |some a=>
     cases e:Tp.unhexD y with
     |none=>rw[c,e]at b;simp at b
     |some d=>
      rw[c,e]at b;simp only at b;split at b
      ·injection b with b;injection b with h1 b;subst b h1
       have j:=na _ _ c;have k:=na _ _ e;refine⟨by rw[UInt8.toNat_ofNat'];omega,?_⟩;intro z i;simp at i;rcases i with rfl|rfl|rfl<;>omega
      ·simp at b
   | [],b=>simp at b
   | [_],b=>simp at b
  ·simp at b
theorem m8(q:UInt8)(i:q.toNat < 128):∀(k:Nat) (l:Tp.B) (n:Nat) (o a:Tp.B),(∀j,j < k->128<=Ln.nat l j)->k<=l.length->Tp.unq q n l=W (o,a)->∃b d,b+k=n/\Tp.unq q b (l.drop k)=W (d,a)/\o=l.take k++d
 |0,l,n,o,a,_,_,h=>⟨n,o,rfl,h,rfl⟩
 |k+1,l,0,o,a,_,_,h=>by simp[Tp.unq]at h
 |k+1,[],n+1,o,a,_,hk,h=>by simp at hk
 |k+1,c::t,n+1,o,a,hh,hk,h=>by
  have u:=hh 0 (by omega);have m:128<=c.toNat:=u;have s:¬c=q:=λe=>by rw[e]at m;omega
  unfold Tp.unq at h;simp only at h;rw[if_neg s,if_neg (by omega),if_neg (by omega)]at h;obtain⟨x,r,f⟩:=zN.1 h;injection f with e2 e3;subst e2 e3;obtain⟨b,d,v,g,p⟩:=m8 q i k t n x.1 x.2 (λj w=>hh (j+1) (by omega)) (by simpa using hk) r;exact⟨b,d,by omega,g,by rw[p];rfl⟩
theorem go(l:Tp.B)(p:Nat)(b:UInt8)(t:Tp.B)(c:l.drop p=b::t):l[p]? =W b/\l.drop (p+1)=t/\p < l.length:=by
 have a:(l.drop p)[0]? =W b:=by rw[c];rfl
 rw[List.getElem?_drop,Nat.add_zero]at a;refine⟨a,?_,(zM.1 a).1⟩;rw[<-List.drop_drop,c];rfl
theorem cd(q:UInt8)(u:q=34\/q=39)(s:ByteArray):∀(n p:Nat) (o i:Tp.B),Ln.right (s.data.toList.drop p)=true->Tp.unq q n (s.data.toList.drop p)=W (o,i)->
 ∃f e,zy q s p f e/\p < e/\e<=s.size/\s.data.toList.drop e=i/\f.flatMap (λx=>Lib.runeCells x.1)=Lib.byteCells o/\(∀x∈f,0<=x.1/\x.1<=1114111)/\f.length+p < e/\Ln.right i=true
 |0,p,o,i,hr,a=>by simp[Tp.unq]at a
 |n+1,p,o,i,hr,a=>by
  have a6:q.toNat < 128:=by rcases u with rfl|rfl<;>decide
  obtain⟨l,d⟩:∃l,s.data.toList.drop p=l:=⟨_,rfl⟩;rw[d]at hr a
  match l,hr,a with
  | [],hr,a=>simp[Tp.unq]at a
  |c::t,hr,a=>
   obtain⟨av,w,R⟩:=go _ _ _ _ d;rw[ap]at R;have N:(c::t)≠[]:=by simp
   by_cases be:128<=c.toNat
   ·have j:Ln.dec (c::t)≠(65533,1):=λe=>by rw[Ln.cJ _ N e]at hr;cases hr
    obtain⟨ba,a1⟩:=Ln.c8 (c::t) (show 128<=c.toNat by omega);have a5:=Ln.dX _ N;have bq:=Ln.dq (c::t);obtain⟨a0,a3,ao,g,E⟩:=m8 q a6 _ (c::t) (n+1) o i a1 a5 a;rw[Ln.bF _ N j,<-d,List.drop_drop]at hr;rw[<-d,List.drop_drop]at g;rw[d]at hr g;obtain⟨f,e,C,ac,y,z,v,A,al,r⟩:=cd q u s a0 _ a3 i hr g;have k:yW q s p ((Ln.dec (c::t)).1:Int) (p+(Ln.dec (c::t)).2):=by
     refine⟨R,by rw[d];exact j,by rw[d],by rw[d],by omega,by omega,by omega,by omega⟩
    have X:=j5 q s p _ _ k;refine⟨(((Ln.dec (c::t)).1:Int),p+(Ln.dec (c::t)).2)::f,e,⟨.inl k,C⟩,by omega,y,z,?_,?_,?_,r⟩
    ·rw[List.flatMap_cons,v]
     simp only;rw[X.2.2,d,show p+(Ln.dec (c::t)).2 - p=(Ln.dec (c::t)).2 by omega,<-bc,E]
    ·intro x b
     rcases List.mem_cons.1 b with rfl|b
     ·have:=X.2.1;simp only;omega
     ·exact A x b
    ·simp only[zO];omega
   ·have S:c.toNat < 128:=by omega
    have L:Ln.right t=true:=by rw[<-Ln.aR c t S];exact hr
    unfold Tp.unq at a;simp only at a;by_cases F:c=q
    ·rw[if_pos F]at a
     by_cases M:c.toNat=39/\t.head? =W c
     ·rw[if_pos M]at a;simp at a
     rw[if_neg M]at a;injection a with a;injection a with ao g;subst ao g F;refine⟨[],p+1,⟨⟨av,λad=>?_⟩,rfl⟩,by omega,by omega,w,rfl,by simp,by simp,L⟩;rw[<-List.head?_drop,w];intro e;exact M ⟨by rw[ad];rfl,by rw[e,ad]⟩
    rw[if_neg F]at a;by_cases an:c.toNat=92
    ·rw[if_pos an]at a
     by_cases H:q.toNat=39
     ·rw[if_pos H]at a;simp at a
     rw[if_neg H]at a;have a4:q=34:=by
      rcases u with a|a
      ·exact a
      ·rw[a]at H;exact absurd rfl H
     cases D:Tp.escd t with
     |none=>rw[D]at a;simp at a
     |some bm=>
      obtain⟨G,m⟩:=bm;rw[D]at a;simp only at a;obtain⟨x,b,P⟩:=zN.1 a;injection P with g E;subst g E;obtain⟨a2,a9⟩:=tX _ _ _ D;obtain⟨bb,bk⟩:=rO _ _ _ D;have T:Ln.right (t.drop m)=true:=by
       rw[<-Ln.aS (t.take m) (t.drop m) a9,List.take_append_drop];exact L
      rw[<-w,List.drop_drop]at T b;obtain⟨f,e,C,ac,y,z,v,A,al,r⟩:=cd q u s n _ x.1 x.2 T b;have k:Av s p (G.toNat:Int) (p+1+m):=⟨by rw[av,show c=92 from UInt8.toNat_inj.1 an],G,m,by rw[w];exact D,rfl,rfl⟩;refine⟨((G.toNat:Int),p+1+m)::f,e,⟨.inr ⟨a4,k⟩,C⟩,by omega,y,z,?_,?_,?_,r⟩
      ·rw[List.flatMap_cons,v]
       simp only;rw[gw G a2,<-bc];rfl
      ·intro x b
       rcases List.mem_cons.1 b with rfl|b
       ·simp only;omega
       ·exact A x b
      ·simp only[zO];omega
    rw[if_neg (by omega)]at a;by_cases ab:c.toNat < 32\/c.toNat=127
    ·rw[if_pos ab]at a;simp at a
    rw[if_neg ab]at a;obtain⟨x,b,P⟩:=zN.1 a;injection P with g E;subst g E;rw[<-w]at L b;obtain⟨f,e,C,ac,y,z,v,A,al,r⟩:=cd q u s n _ x.1 x.2 L b;have j:=Ln.aM c t S;have k:yW q s p (c.toNat:Int) (p+1):=by
     have bn:c.toNat≠q.toNat:=λe=>F (UInt8.toNat_inj.1 e);refine⟨R,by rw[d,j];intro e;injection e with e;omega,by rw[d,j],by rw[d,j],by omega,by omega,by omega,by omega⟩
    refine⟨((c.toNat:Int),p+1)::f,e,⟨.inl k,C⟩,by omega,y,z,?_,?_,?_,r⟩
    ·rw[List.flatMap_cons,v]
     simp only;rw[gw c S,<-bc];rfl
    ·intro x b
     rcases List.mem_cons.1 b with rfl|b
     ·simp only;omega
     ·exact A x b
    ·simp only[zO];omega
def yF(s:ByteArray)(p:Nat):Bool:=decide (p=0)||yC s (p - 1) [32]
theorem bf(s:ByteArray)(p:Nat)(b:UInt8)(c:s.data.toList[p]? =W b)(a:List UInt8):yC s p a=a.contains b:=by unfold yC;rw[c]
theorem sp(s:ByteArray)(p d:Nat)(a:UInt8)(t:Tp.B)(b:s.data.toList.drop p=a::t):
 Az s p d=((a.toNat==35&&yF s p)||(a.toNat==58&&Tp.closed d t)||(decide (0 < d)&&Tp.flowC a)):=by
 obtain⟨c,o,q⟩:=go _ _ _ _ b;rw[ap]at q;unfold Az y7;rw[bf s p a c,bf s p a c,bf s p a c,o,decide_eq_false (by omega)];unfold yF Tp.flowC;rw[Bool.false_or];have e:∀n:Nat,n < 256->(a==UInt8.ofNat n)=(a.toNat==n):=by
  intro n r;rw[Bool.eq_iff_iff];simp only[beq_iff_eq];constructor
  ·intro b;rw[b,UInt8.toNat_ofNat'];omega
  ·intro b;rw[<-b];exact UInt8.ofNat_toNat.symm
 have k:=e 35 (by decide);have f:=e 58 (by decide);have g:=e 44 (by decide);have i:=e 91 (by decide);have j:=e 93 (by decide);have l:=e 123 (by decide);have m:=e 125 (by decide);simp only[show (UInt8.ofNat 35)=35 from rfl,show (UInt8.ofNat 58)=58 from rfl,show (UInt8.ofNat 44)=44 from rfl,show (UInt8.ofNat 91)=91 from rfl,show (UInt8.ofNat 93)=93 from rfl,show (UInt8.ofNat 123)=123 from rfl,show (UInt8.ofNat 125)=125 from rfl]at k f g i j l m;simp only[List.contains_cons,List.contains_nil,Bool.or_false,k,f,g,i,j,l,m,Bool.or_assoc]
theorem fJ(s:ByteArray)(p:Nat)(a:UInt8)(b:s.data.toList[p]? =W a):yF s (p+1)=(a.toNat==32):=by
 unfold yF;rw[decide_eq_false (by omega),Bool.false_or,show p+1 - 1=p by omega,bf s p a b,Bool.eq_iff_iff];simp[List.contains_cons,<-UInt8.toNat_inj]
theorem fH(s:ByteArray)(d:Nat):∀(l:Tp.B) (p:Nat),s.data.toList.drop p=l->(∀i,i < Tp.ptake d (yF s p) l->Az s (p+i) d=false)/\Az s (p+Tp.ptake d (yF s p) l) d=true/\p+Tp.ptake d (yF s p) l<=max p s.size
 | [],p,h=>by
  have o:s.size<=p:=by
   have:=congrArg List.length h;rw[zZ,ap]at this;simp at this
   omega
  refine⟨λi b=>by simp[Tp.ptake]at b,?_,by simp[Tp.ptake];omega⟩;simp only[Tp.ptake,Nat.add_zero];unfold Az;rw[decide_eq_true o];simp
 |c::t,p,h=>by
  obtain⟨m,j,n⟩:=go _ _ _ _ h;rw[ap]at n;have f:=sp s p d c t h;rw[Tp.ptake];by_cases a:((c.toNat==35&&yF s p)||(c.toNat==58&&Tp.closed d t)||(decide (0 < d)&&Tp.flowC c))=true
  ·rw[if_pos a]
   exact⟨λi b=>by omega,by rw[Nat.add_zero,f,a],by omega⟩
  ·rw[if_neg a]
   have q:=fJ s p c m;obtain⟨e,g,k⟩:=fH s d t (p+1) j;rw[q]at e g k;refine⟨λi b=>?_,by rw[show p+(Tp.ptake d (c.toNat==32) t+1)=p+1+Tp.ptake d (c.toNat==32) t by omega];exact g,by omega⟩;rcases Nat.eq_zero_or_pos i with rfl|r
   ·rw[Nat.add_zero,f]
    exact Bool.eq_false_iff.2 a
   ·rw[show p+i=p+1+(i - 1)by omega]
    exact e (i - 1) (by omega)
theorem fe(l:Tp.B)(b:UInt8)(d:b∈l):b∈Tp.trimR l\/b=32:=by
 unfold Tp.trimR;have a:b∈l.reverse:=by simpa using d
 rw[<-List.takeWhile_append_dropWhile (p:=λx:UInt8=>x.toNat==32) (l:=l.reverse)]at a;rcases List.mem_append.1 a with a|a
 ·right
  have c:=(List.all_eq_true.1 (List.all_takeWhile (p:=λx:UInt8=>x.toNat==32) (l:=l.reverse))) b a;exact UInt8.toNat_inj.1 (by simpa using c)
 ·left
  simpa using a
theorem pO(l:Tp.B):Lib.trimRightB l 32=Tp.trimR l:=by
 unfold Lib.trimRightB Tp.trimR;congr 2
 funext x
 rw[Bool.eq_iff_iff];simp[<-UInt8.toNat_inj]
section
attribute [local go_sem ↓] Go.wp_at_zero Go.wp_at_succ
attribute [local go_sem] ak
def AH(w:World)(a:Nat):Nat:=(Lib.intOf ((w.cell? ⟨a,1,O⟩).getD undef)).toNat
theorem gz{w:World}{a:Nat}{s:ByteArray}{p d:Nat}(b:yb w a s p d):AH w a=p:=by
 unfold AH;rw[ae b 1];show ((p:Int)).toNat=p;exact Int.toNat_natCast p
theorem oF(a:Nat)(s:ByteArray)(p d:Nat)(c4:s.size<=100000)(d0:p < s.size)(A:Tp.okPlain (Tp.trimR ((s.data.toList.drop p).take (Tp.ptake d (yF s p) (s.data.toList.drop p))))=true)(w:World)(bn:Glob w)(dW:10<=a)(ao:yb w a s p d):
 Calls π 234 #[Z (W ⟨a,0,O⟩)] w (yh w a s (p+Tp.ptake d (yF s p) (s.data.toList.drop p)) d ⟨1,Tp.trimR ((s.data.toList.drop p).take (Tp.ptake d (yF s p) (s.data.toList.drop p))),p⟩):=by
 obtain⟨ab,D,ct⟩:=fH s d _ p rfl;generalize hu:Tp.ptake d (yF s p) (s.data.toList.drop p)=f at ab D ct A ⊢;have d1:p+f<=s.size:=by omega
 have b3:=(ci _ A).1;have b1:∀i,i<=f->yC s (p+i) [58]=true->Tp.closed d (s.data.toList.drop (p+i+1))=true:=by
  intro i al b4;by_cases c5:p+i < s.size
  ·have cb:p+i < s.data.toList.length:=by rw[ap];exact c5
   have dj:=zE cb;rw[bf s (p+i) _ dj]at b4;have bk:s.data.toList[p+i]=58:=by simpa using b4
   rcases Nat.lt_or_ge i f with j|j
   ·have b2:s.data.toList[p+i]∈(s.data.toList.drop p).take f:=by
     rw[List.mem_take_iff_getElem];exact⟨i,by rw[zZ];omega,by rw[List.getElem_drop]⟩
    rw[bk]at b2;rcases fe _ _ b2 with j|j
    ·have:=b3 _ j;exact absurd this (by decide)
    ·exact absurd j (by decide)
   ·obtain rfl:i=f:=by omega
    have di:=zW cb;rw[sp s (p+i) d _ _ di,bk]at D
    simpa [Tp.flowC]using D
  ·rw[List.drop_eq_nil_of_le (by rw[ap];omega)]
   rfl
 have b6:∀i c,i<=f->yb c a s (p+i) d->Calls π 266 #[Z (W ⟨a,0,O⟩)] c λe w'=>e=ρ (β (Az s (p+i) d))/\Below c.heap.size c w':=λi c al j=>rm a s (p+i) d (by omega) c4 (b1 i al) c j;obtain⟨y,ba⟩:∃y,s.extract p (p+f)=y:=⟨_,rfl⟩;have dA:∀c,(Instr.slice 9 (U s) (W (V I (p:Int))) (W (V I ((p+f:Nat):Int))) O).run π c=.ok (U y) c:=by
  intro c;have j:=run_slice_string (P:=π) c 9 s I I (p:Int) ((p+f:Nat):Int) underlying9 (by omega) (by omega) (by omega);rw[Int.toNat_natCast,Int.toNat_natCast,ba]at j;exact j
 have a5:y.data.toList=(s.data.toList.drop p).take f:=by
  rw[<-ba,ByteArray.data_extract,Array.toList_extract,List.extract_eq_take_drop,Nat.add_sub_cancel_left]
 have c1:y.size<=100000:=by rw[<-ap,a5,List.length_take,zZ,ap];omega
 have X:=λc=>strings_TrimRight_one y 32 (by decide) c (by omega);rw[pO,a5]at X;generalize hTX:Tp.trimR ((s.data.toList.drop p).take f)=ac at X A ⊢;obtain⟨b,ad⟩:∃b:ByteArray,(⟨ac.toArray⟩:ByteArray)=b:=⟨_,rfl⟩;have a2:b.data.toList=ac:=by rw[<-ad]
 have bx:∀c,Calls π 104 #[U y,U ⟨#[32]⟩] c λe w'=>e=ρ (U b)/\w'=c:=λc=>by rw[<-ad];exact X c
 have bR:b.size<=100000:=by
  rw[<-ap,a2,<-hTX];have:∀l:Tp.B,(Tp.trimR l).length<=l.length:=by
   intro l;unfold Tp.trimR;rw[List.length_reverse];have:=(List.dropWhile_sublist (λx:UInt8=>x.toNat==32) (l:=l.reverse)).length_le
   simpa using this
  have c9:=this ((s.data.toList.drop p).take f);rw[List.length_take,zZ,ap]at c9;omega
 have b5:=λa4=>re b a4 bR (by rw[a2];exact A);have c2:=lt_of_heap ao;have cm:yb ((w.alloc (J #[V I 0,U ⟨#[]⟩,V I 0] 305)).alloc (J #[V I 1,U ⟨#[]⟩,V I (p:Int)] 305)) a s (p+0) d:=aa _ (aa _ ao);have ch:((w.alloc (J #[V I 0,U ⟨#[]⟩,V I 0] 305)).alloc (J #[V I 1,U ⟨#[]⟩,V I (p:Int)] 305)).heap[w.heap.size]? =W (J #[V I 0,U ⟨#[]⟩,V I 0] 305):=aa _ (af w _);have cS:((w.alloc (J #[V I 0,U ⟨#[]⟩,V I 0] 305)).alloc (J #[V I 1,U ⟨#[]⟩,V I (p:Int)] 305)).heap[w.heap.size+1]? =W (J #[V I 1,U ⟨#[]⟩,V I (p:Int)] 305):=ah _ _ _ (by simp);have ca:Far (·=a) w ((w.alloc (J #[V I 0,U ⟨#[]⟩,V I 0] 305)).alloc (J #[V I 1,U ⟨#[]⟩,V I (p:Int)] 305)):=((ξ _ w).alloc _).alloc _;have H:(w.alloc (J #[V I 0,U ⟨#[]⟩,V I 0] 305)).cell? ⟨a,1,O⟩=W (V I (p:Int)):=ae (aa _ ao) 1;obtain⟨db,dn,c6,dc,dg,dl⟩:=zx6 bn b6 b5 bx ab D;obtain⟨da,bs,co,b9,bD⟩:=zx5 ad cm ch cS ca;clear bn b6 b5 bx ab D ad hTX A b1 hu ba a5 c1 X a2 bR ao cm ch cS ca ct b3
 go_enter func234,ntmps234
 go_wp2_with fail
 go_loopw [] (λwr=>∃i:Nat,i<=f/\yb wr a s (p+i) d/\wr.heap[w.heap.size]? =W (J #[V I 0,U ⟨#[]⟩,V I 0] 305)/\wr.heap[w.heap.size+1]? =W (J #[V I 1,U ⟨#[]⟩,V I (p:Int)] 305)/\Far (·=a) w wr) (λwr=>p+f - AH wr a)
 case atStart=>exact⟨0,z_ _,bs.out,co.out,b9.out,bD.out⟩
 case round=>
  obtain⟨i,al,n,M,G,R⟩:=hrel;have dm:AH wr a=p+i:=gz n;obtain⟨a6,cv,bm,c0⟩:=zx4 n M G R;clear n M G R H bs co b9 bD
  go_wp2_with fail
  refine(dn.out i wr al a6.out).mono ?_;rintro e q ⟨rfl,F⟩;have n:=a6.out.below F (lt_of_heap a6.out);have M:=(F.block _ (lt_of_heap cv.out)).trans cv.out;have G:=(F.block _ (lt_of_heap bm.out)).trans bm.out;have R:=c0.out.below F;obtain⟨T,av,z,a9⟩:=zx4 n M G R;clear F M G R;rcases Nat.lt_or_ge i f with a0|a0
  ·rw[dg.out i a0]
   have H:=zF n 1 rfl;have b8:=ag n 1;have df:IntKind.i64.wrap (((p+i:Nat):Int)+1)=((p+(i+1):Nat):Int):=by rw[show ((p+i:Nat):Int)+1=((p+(i+1):Nat):Int)by omega];exact zU _ (by omega)
   generalize ((p+i:Nat):Int)=cl at *;obtain⟨N,a1⟩:∃N:Int,((p+(i+1):Nat):Int)=N:=⟨_,rfl⟩;rw[a1]at df;have be:=zD a1;clear n a1
   go_wp2_with fail
   go_roundw
   case rel=>
    refine⟨i+1,a0,?_,(Below.heap_setCell _ _ _ _ (by show w.heap.size≠a;omega)).trans av.out,(Below.heap_setCell _ _ _ _ (by show w.heap.size+1≠a;omega)).trans z.out,a9.out.setCell (p:=⟨a,1,O⟩) (λ_=>rfl) _⟩;have:=ai T.out 1 (V I N);rw[<-be.out]at this ⊢;exact this
   case measure=>
    have:=ai T.out 1 (V I N);rw[dm,show AH (q.setCell ⟨a,1,O⟩ (V I N)) a=p+(i+1)by rw[<-be.out]at this ⊢;exact gz (d:=d) (s:=s) this];omega
  ·obtain rfl:i=f:=by omega
   rw[dl.out];have cf:=zF n 0 rfl;have H:=zF n 1 rfl;have S:=zF n 2 rfl;have bq:=zF z.out 2 rfl;have an:=zF z.out 1 rfl;have b8:=ag z.out 1;have o:yb (q.setCell ⟨w.heap.size+1,1,O⟩ (U b)) a s (p+i) d:=(Below.heap_setCell _ _ _ _ (by show a≠w.heap.size+1;omega)).trans T.out;have g:(q.setCell ⟨w.heap.size+1,1,O⟩ (U b)).heap[w.heap.size]? =W (J #[V I 0,U ⟨#[]⟩,V I 0] 305):=(Below.heap_setCell _ _ _ _ (by show w.heap.size≠w.heap.size+1;omega)).trans av.out;have m:(q.setCell ⟨w.heap.size+1,1,O⟩ (U b)).heap[w.heap.size+1]? =W (J #[V I 1,U b,V I (p:Int)] 305 (0,0)):=ai z.out 1 _;have t:Far (·=a) w (q.setCell ⟨w.heap.size+1,1,O⟩ (U b)):=a9.out.setCell (p:=⟨w.heap.size+1,1,O⟩) (λj=>by have j:w.heap.size+1 < w.heap.size:=j;omega) _;have b0:=zF o 0 rfl;have cc:=zF o 1 rfl;have ck:=zF m 2 rfl;obtain⟨r,v,C,E⟩:=zx4 o g m t;clear o g m t;generalize ((p+i:Nat):Int)=cl at *;clear n
   go_wp2_with fail
   go_region_held3 (λw'=>w'.cell? ⟨a,0,O⟩=W (U s)/\w'.cell? ⟨a,1,O⟩=W (V I cl)/\w'.cell? ⟨w.heap.size+1,2,O⟩=W (V I (p:Int))) (first|(with_reducible exact⟨cf,H,bq⟩)|exact⟨b0,cc,ck⟩|go_keep) (first|(go_at_call 104;refine(dc.out _).mono ?_;rintro e a3 ⟨rfl,rfl⟩))
   have o:yb (q.setCell ⟨w.heap.size+1,1,O⟩ (U b)).drew a s (p+i) d:=r.out;have g:(q.setCell ⟨w.heap.size+1,1,O⟩ (U b)).drew.heap[w.heap.size]? =W (J #[V I 0,U ⟨#[]⟩,V I 0] 305):=v.out;have m:(q.setCell ⟨w.heap.size+1,1,O⟩ (U b)).drew.heap[w.heap.size+1]? =W (J #[V I 1,U b,V I (p:Int)] 305 (0,0)):=C.out;have t:Far (·=a) w (q.setCell ⟨w.heap.size+1,1,O⟩ (U b)).drew:=E.out.drew;clear b0 cc ck cf H S an bq b8 r v C E T av z a9
   go_upto_region 5 with (fail)
   generalize (q.setCell ⟨w.heap.size+1,1,O⟩ (U b)).drew=L at *;have S:=zF o 2 rfl;have an:=zF m 1 rfl;have bb:Glob L.drew:=db.out.far t.drew (λk A e=>by omega);have cT:=zD (λa4=>c6.out a4 L.drew bb);obtain⟨r,v,C,E⟩:=zx4 o g m t;have c3:=lt_of_heap m;clear o g m t bb
   go_region_held3 (λw'=>w'.cell? ⟨a,2,O⟩=W (V I (d:Int))/\w'.cell? ⟨w.heap.size+1,1,O⟩=W (U b)) (first|(with_reducible exact⟨S,an⟩)|exact⟨ae (yb.below (w:=L) r.out u (lt_of_heap r.out)) 2,ae ((u.block _ c3).trans C.out) 1⟩|go_keep) (first|(go_at_call 267;refine(cT.out _).mono ?_;rintro e a3 ⟨rfl,bw⟩;have u:Below L.heap.size L a3:=bN bw))
   all_goals (
    have o:=r.out.below u (lt_of_heap r.out);have g:=(u.block _ (lt_of_heap v.out)).trans v.out;have m:=(u.block _ (lt_of_heap C.out)).trans C.out;have t:=E.out.below u;obtain⟨r,v,E⟩:=zx3 o g t;have ds:=zF m 0 rfl;have dC:=zF m 1 rfl;have dp:=zF m 2 rfl;have dr:=zF g 0 rfl;have ab:=zF g 1 rfl;have D:=zF g 2 rfl;have dJ:=ag g 0;have dv:=ag g 1;have d2:=ag g 2;clear o g m t u bw S an
    go_wp2_with fail
    rw[show (U b:Value)=xR ac by rw[<-da.out];rfl];exact aF results234 w a3 a s (p+i) d ⟨1,ac,p⟩ _ v.out r.out E.out c2 rfl rfl)
end
theorem qH(s:ByteArray)(M:s.size<=1000000)(w:World):Calls π 101 #[γ #[U s]] w λe w'=>e=ρ (β (Ln.plainB s.data.toList))/\Below w.heap.size w w':=by
 generalize hR:Ln.plainB s.data.toList=R;have A:=zD hR;clear hR
 go_enter func101,ntmps101
 go_wp2_with fail
 go_loopw [4] (λ_ wr=>∃pos:Nat,wr.heap[w.heap.size+1]? =W (.stringIter s pos)/\Ln.plainB (s.data.toList.drop pos)=R/\pos<=s.size/\Below w.heap.size w wr) (λ_ wr=>s.size - wr.iterPos (w.heap.size+1))
 case atStart=>exact⟨0,by have:=World.iter_heap (w.alloc (Obj.cells #[Value.string s] 134)) s 0;simpa using this,by rw[List.drop_zero];exact A.out,z_ _,((ζ _ _).alloc (η _) _).alloc (by simp) _⟩
 case round=>
  obtain⟨pos,c,i,N,k⟩:=hrel;by_cases t:pos < s.size
  ·have l:∀b,(Instr.next (Z (W ⟨w.heap.size+1,0,O⟩)) true b).run π wr=_:=λb=>Lib.run_next_any_at wr (w.heap.size+1) s pos b c t
   rw[aX]at l;obtain⟨a,f⟩:∃a,(Ln.dec (s.data.toList.drop pos)).1=a:=⟨_,rfl⟩;obtain⟨n,g⟩:∃n,(Ln.dec (s.data.toList.drop pos)).2=n:=⟨_,rfl⟩;have d:s.data.toList.drop pos≠[]:=by
    intro e;have:=congrArg List.length e;simp only[zZ,ap,List.length_nil]at this;omega
   have H:1<=n:=by rw[<-g];exact Ln.dq _
   have D:pos+n<=s.size:=by
    have:=Ln.dX _ d;simp only[zZ,ap]at this;omega
   rw[f,g]at l;have C:wr.iterPos (w.heap.size+1)=pos:=by simp[World.iterPos,c]
   have j:=bL wr (w.heap.size+1) s s pos (pos+n) c;have r:(wr.iterAt (w.heap.size+1) s (pos+n)).iterPos (w.heap.size+1)=pos+n:=by simp[World.iterPos,j]
   have v:Below w.heap.size w (wr.iterAt (w.heap.size+1) s (pos+n)):=k.trans (bu _ _ _ _ _ (Nat.le_succ _));have u:(a < 32\/a=127)->R=false:=λo=>by
    rw[<-i];exact Ln.j6 _ d (by rw[f];exact o)
   have p:¬(a < 32\/a=127)->Ln.plainB (s.data.toList.drop (pos+n))=R:=λo=>by
    rw[<-i,Ln.ia _ d (by rw[f];exact o),g,List.drop_drop]
   obtain⟨E,q,z,x,m⟩:=zx5 p u j r v;clear p u i f g d k c j r v;by_cases L:(a:Int) < 32
   ·obtain rfl:=q.out (.inl (by omega))
    go_wp2_with fail
    go_ret
    exact⟨rfl,m.out⟩
   ·by_cases G:(a:Int)=127
    ·obtain rfl:=q.out (.inr (by omega))
     go_wp2_with fail
     go_ret
     exact⟨rfl,m.out⟩
    ·have y:=E.out (by omega)
     go_wp2_with fail
     go_roundw
     case rel=>exact⟨pos+n,z.out,y,D,m.out⟩
     case measure=>rw[x.out,C];omega
  ·have l:∀b,(Instr.next (Z (W ⟨w.heap.size+1,0,O⟩)) true b).run π wr=_:=λb=>Lib.run_next_end_at wr (w.heap.size+1) s pos b c t
   have F:R=true:=by
    rw[<-i,List.drop_eq_nil_of_le (by rw[ap];omega),Ln.qG]
   subst F
   go_wp2_with fail
   go_ret
   exact⟨rfl,k⟩
def yT(s:ByteArray):Value:=if Ln.plainB s.data.toList then (if Ln.markB s.data.toList then .iface 212 (γ #[])else .nilIface)else .iface 211 (γ #[])
theorem lK(s:ByteArray)(i:s.size<=1000000)(w:World):Calls π 71 #[γ #[U s]] w λe w'=>e=ρ (yT s)/\Below w.heap.size w w':=by
 have c:=λw=>qH s i w;have d:=λw=>tQ s w;unfold yT;generalize Ln.plainB s.data.toList=p at c ⊢;generalize Ln.markB s.data.toList=m at d ⊢;have k:∀w:World,(w.alloc (Obj.cells #[Value.string s] 134)).cell? ⟨w.heap.size,0,O⟩=W (U s):=λw=>ae (af w _) 0;cases p with
 |false=>
  go_enter func71,ntmps71
  go_wp2_with fail
  refine(c _).mono ?_;rintro e f ⟨rfl,a⟩
  go_wp2_with fail
  go_ret
  exact⟨rfl,((ζ _ _).alloc (η _) _).trans (a.mono (by simp))⟩
 |true=>
  go_enter func71,ntmps71
  go_wp2_with fail
  refine(c _).mono ?_;rintro e f ⟨rfl,a⟩;have b:Below w.heap.size w f:=((ζ _ _).alloc (η _) _).trans (a.mono (by simp));have l:f.cell? ⟨w.heap.size,0,O⟩=W (U s):=ae ((a.block _ (by simp)).trans (af w _)) 0;clear a;cases m with
  |true=>
   go_wp2_with fail
   refine(d _).mono ?_;rintro e j ⟨rfl,g⟩
   go_wp2_with fail
   go_ret
   exact⟨rfl,b.trans (g.mono b.size)⟩
  |false=>
   go_wp2_with fail
   refine(d _).mono ?_;rintro e j ⟨rfl,g⟩
   go_wp2_with fail
   go_ret
   exact⟨rfl,b.trans (g.mono b.size)⟩
theorem oA{X:Bool}{P:Program}{n:Nat}{g:Operand}{ps:Array Tmp}{assign body:Code}{Q:Exit->Act->World->Prop}{a:Act}{w:World}{gf:Nat}{lb:Array Value}{N:Nat}{enc:Nat->Array Value}{R S:World->World->Prop}{Fin:World->Prop}
(hg:a.eval g=φ (.func gf) #[] lb)(eg:∀args w,(callFunc gf args).run P w=.ok (.enter gf args) w)
(hiter:AZ X P gf lb (n - 1 - 1) N enc R S Fin w)(hF:∀W W',Fin W->Far (·=w.heap.size+1) W W'->Fin W')(hR:∀W W',R W W'->Far (λk=>k≠w.heap.size/\k≠w.heap.size+1) W W')
(hS:∀A B C D,Far (·=w.heap.size+1) A B->S B C->Far (·=w.heap.size+1) C D->S A D)(hps:∀t,(enc t).size=ps.size)
(I:Nat->World->Prop)(Ix:Code->World->Prop)
(hIr:∀t W W',I t W->R W W'->I t W')(hIxr:∀c W W',Ix c W->R W W'->Ix c W')
(hI:∀t W W',I t W->Far (·=w.heap.size+1) W W'->I t W')(hIx:∀c W W',Ix c W->Far (·=w.heap.size+1) W W'->Ix c W')
(hX:X=false->∀c W,¬Ix c W)(h0:I 0 w)(A:Nat->Act->World->Prop)(hA:∀t a W W',A t a W->Far (·=w.heap.size+1) W W'->A t a W')(hS2:∀A B C,S A B->S B C->S A C)
(hassign:∀t W (K:Act->World->Prop),t < N->w.heap.size+1 < W.heap.size->I t W->(∀a₁ W',A t a₁ W'->Far (λk=>k≠w.heap.size/\k≠w.heap.size+1) W W'->S W W'->K a₁ W')->assign.wpIn (Fence.wide.inRound (w.heap.size+1)) (n - 1 - 1) P (Exit.then K (λ_ _ _=>False)) { tmps:=(ps.zip (enc t)).foldl (λs (p,v)=>s.setIfInBounds p v) a.tmps,defers:=[] } W)
(hbody:∀t a₁ W,t < N->w.heap.size+1 < W.heap.size->A t a₁ W->body.wpIn (Fence.wide.inRound (w.heap.size+1)) (n - 1 - 1) P (AG (I (t+1)) Ix w.heap.size S W) a₁ W)
(hdone:∀W,I N W->Fin W->W.heap[w.heap.size]? =some (.deferred (some []))->Q .normal { a with defers:={ target:=.collected w.heap.size,args:=#[] }::a.defers } W)
(hstop:∀c W,Ix c W->W.heap[w.heap.size]? =some (.deferred (some []))->c.wpIn Fence.wide n P Q { a with defers:={ target:=.collected w.heap.size,args:=#[] }::a.defers } W):
 (Code.rangeFunc g ps assign body).wpIn Fence.wide n P Q a w:=by
 refine wpIn_rangeFunc ?_;intro fn hfn;obtain⟨rec,hrec⟩:∃rec:LoopState->Option Code->Loop,rec=λst pe=>{ state:=st,pending:=pe,fn,tmps:=a.tmps,params:=ps,assign,body,defers:=w.heap.size }:=⟨_,rfl⟩;obtain⟨W1,hW1⟩:∃W1,(w.alloc (.deferred (some []))).alloc (.loop (rec .ready O))=W1:=⟨_,rfl⟩;have hL1:W1.heap[w.heap.size+1]? =some (.loop (rec .ready O)):=by
  rw[<-hW1];exact ah _ _ _ (by simp)
 have hK1:W1.heap[w.heap.size]? =some (.deferred (some [])):=by
  rw[<-hW1];exact aa _ (af w _)
 have hI1:I 0 W1:=by rw[<-hW1];exact hI 0 w _ h0 (((ξ _ _).alloc _).alloc _)
 have hb1:Below w.heap.size w W1:=by rw[<-hW1];exact((ζ _ w).alloc (η _) _).alloc (by simp) _
 refine⟨w.heap.size+1,[{ target:=.collected w.heap.size,args:=#[] }],W1,{ target:=.fn (.func gf) lb,args:=#[φ (.yield (w.heap.size+1)) #[] #[]] },W1,gf,
  #[φ (.yield (w.heap.size+1)) #[] #[]]++lb,W1,?_,?_,?_,?_,λh=>absurd h (by simp[Fence.wide]),?_⟩
 ·rw[<-hW1,hrec];exact run_enterLoop_outer _ _ _ _ _
 ·simp only[resolve,hg]
  simp[go_sem]
 ·intro f' _;trivial
 ·simp[invoke,go_sem,eg]
 ·refine callsIn_wide.2 ((hiter (w.heap.size+1)
   (λt W=>I t W/\W.heap[w.heap.size+1]? =some (.loop (rec .ready O))/\W.heap[w.heap.size]? =some (.deferred (some [])))
   (λW=>∃c,Ix c W/\W.heap[w.heap.size+1]? =some (.loop (rec .done (some c)))/\W.heap[w.heap.size]? =some (.deferred (some [])))
   W1 hb1 (by rw[<-hW1];simp) ?_ ?_ (λhx W ⟨c,hc,_⟩=>hX hx c W hc) ?_ ⟨hI1,hL1,hK1⟩).mono ?_)
  ·rintro t W W' ⟨hi,hl,hk⟩ hf
   exact⟨hIr t W W' hi hf,(hR _ _ hf).heap hl (λe=>e.2 rfl),(hR _ _ hf).heap hk (λe=>e.1 rfl)⟩
  ·rintro W W' ⟨c,hi,hl,hk⟩ hf
   exact⟨c,hIxr c W W' hi hf,(hR _ _ hf).heap hl (λe=>e.2 rfl),(hR _ _ hf).heap hk (λe=>e.1 rfl)⟩
  ·rintro t ht W0 ⟨hi,hl0,hk0⟩
   have hlt0:w.heap.size+1 < W0.heap.size:=lt_of_heap hl0;have hy:=run_yield (P:=P) (args:=enc t) hl0 (by rw[hrec];exact hps t);rw[hrec]at hy;refine⟨fn,_,assign,body,hy,roundIn_of_wpIn trivial (hassign t W0 _ ht hlt0 hi (λa₁ W hA1 hF1 hS1=>?_))⟩;have hl:=hF1.heap hl0 (λe=>e.2 rfl);have hk:=hF1.heap hk0 (λe=>e.1 rfl);have hlt:w.heap.size+1 < W.heap.size:=lt_of_heap hl;refine⟨_,run_beginRound hl (by rw[hrec]),?_⟩;have hl2:(W.putObj (w.heap.size+1) (.loop { rec .ready O with state:=.busy })).heap[w.heap.size+1]? =some (.loop { rec .ready O with state:=.busy }):=World.putObj_heap_same hlt;have hk2:(W.putObj (w.heap.size+1) (.loop { rec .ready O with state:=.busy })).heap[w.heap.size]? =some (.deferred (some [])):=(World.putObj_heap_other (by omega)).trans hk;have hf2:Far (·=w.heap.size+1) W (W.putObj (w.heap.size+1) (.loop { rec .ready O with state:=.busy })):=aI _ _ _;have hi2:=hA t a₁ W _ hA1 hf2;refine wpIn_mono (hbody t a₁ _ ht (by simpa using hlt) hi2) ?_;have fin:∀(jump:Option Code) (W3:World),(Far (λk=>k≠w.heap.size/\k≠w.heap.size+1) (W.putObj (w.heap.size+1) (.loop { rec .ready O with state:=.busy })) W3/\S (W.putObj (w.heap.size+1) (.loop { rec .ready O with state:=.busy })) W3)->
    (Instr.endRound (w.heap.size+1) jump).run P W3=.ok (β jump.isNone) (W3.putObj (w.heap.size+1) (.loop (rec (if jump.isNone then .ready else .done) jump)))/\
    (W3.putObj (w.heap.size+1) (.loop (rec (if jump.isNone then .ready else .done) jump))).heap[w.heap.size+1]? =some (.loop (rec (if jump.isNone then .ready else .done) jump))/\
    (W3.putObj (w.heap.size+1) (.loop (rec (if jump.isNone then .ready else .done) jump))).heap[w.heap.size]? =some (.deferred (some []))/\
    S W0 (W3.putObj (w.heap.size+1) (.loop (rec (if jump.isNone then .ready else .done) jump))):=λjump W3 hk3=>by
    have hl3:=hk3.1.heap hl2 (λe=>e.2 rfl);have hd3:=hk3.1.heap hk2 (λe=>e.1 rfl);have:=run_endRound (P:=P) jump hl3;rw[hrec]at this ⊢;refine⟨this,World.putObj_heap_same (lt_of_heap hl3),(World.putObj_heap_other (by omega)).trans hd3,?_⟩;rw[hrec]at hk3;rw[hrec]at hf2;exact hS2 _ _ _ hS1 (hS _ _ _ _ hf2 hk3.2 (aI _ _ _))
   have frl:∀(W3:World) (o:Obj),Far (·=w.heap.size+1) W3 (W3.putObj (w.heap.size+1) o):=λW3 o=>aI W3 _ o;rintro e a3 W3 hp;cases e with
   |normal=>
    obtain⟨hi3,hk3⟩:=hp;obtain⟨hr,hl4,hk4,hf4⟩:=fin O W3 hk3;exact⟨_,_,hr,.inl ⟨rfl,⟨hI _ _ _ hi3 (frl _ _),hl4,hk4⟩,hf4⟩⟩
   |ret=>
    obtain⟨hi3,hk3⟩:=hp;obtain⟨hr,hl4,hk4,hf4⟩:=fin (some .ret) W3 hk3;exact⟨_,_,hr,.inr ⟨rfl,.ret,hIx _ _ _ hi3 (frl _ _),hl4,hk4⟩⟩
   |exit id=>
    obtain⟨hi3,hk3⟩:=hp;obtain⟨hr,hl4,hk4,hf4⟩:=fin (some (.exit id)) W3 hk3;exact⟨_,_,hr,.inr ⟨rfl,.exit id,hIx _ _ _ hi3 (frl _ _),hl4,hk4⟩⟩
   |goto t=>
    obtain⟨hi3,hk3⟩:=hp;obtain⟨hr,hl4,hk4,hf4⟩:=fin (some (.goto t)) W3 hk3;exact⟨_,_,hr,.inr ⟨rfl,.goto t,hIx _ _ _ hi3 (frl _ _),hl4,hk4⟩⟩
   |panic ch=>exact hp.elim
   |outgrown=>exact hp.elim
  ·have frl:∀(W3:World) (o:Obj),Far (·=w.heap.size+1) W3 (W3.putObj (w.heap.size+1) o):=λW3 o=>aI W3 _ o
   rintro e W2 ⟨⟨v,rfl⟩,(⟨⟨hi,hl,hk⟩,hfin⟩|⟨c,hi,hl,hk⟩)⟩
   ·exact⟨O,_,by have:=run_endLoop (P:=P) hl (by rw[hrec];simp);rw[hrec]at this;exact this,hdone _ (hI _ _ _ hi (frl _ _)) (hF _ _ hfin (frl _ _)) ((World.putObj_heap_other (by omega)).trans hk)⟩
   ·exact⟨some c,_,by have:=run_endLoop (P:=P) hl (by rw[hrec];simp);rw[hrec]at this;exact this,hstop c _ (hIx c _ _ hi (frl _ _)) ((World.putObj_heap_other (by omega)).trans hk)⟩
section
attribute [local go_sem] ak
attribute [local go_sem] Oper.semAt_some
def ye(a:List Ln.Line):List Value:=a.flatMap λx=>[V I x.no,V I x.ind,U ⟨x.s.toArray⟩]
theorem eO(a b:List Ln.Line):ye (a++b)=ye a++ye b:=by simp[ye]
def AC(base:Nat)(v:Value)(a:List Ln.Line)(w:World):Prop:=w.ownsRow base 140 3 v a.length (ye a)
def SI(s:ByteArray)(w:World)(p:Nat)(t:Nat)(a:World):Prop:=
 (∃v,a.heap[p]? =W (J #[v] 101 (0,0))/\AC (p+4) v (Ln.lns 1 ((Ln.rows s.data.toList).take t)) a)/\
 a.heap[w.heap.size]? =W (J #[Y O 0 0] 101 (0,0))/\a.heap[w.heap.size+1]? =W (J #[V I 0] 3 (0,0))/\a.heap[w.heap.size+1+1]? =W (J #[V I 0] 24 (0,0))/\
 (∀b∈(Ln.rows s.data.toList).take t,Ln.trouble b=0)/\Below w.heap.size w a
def SX(s:ByteArray)(w:World)(a:World):Prop:=
 (Ln.bad 1 (Ln.rows s.data.toList)).2≠0/\a.heap[w.heap.size]? =W (J #[Y O 0 0] 101 (0,0))/\a.heap[w.heap.size+1]? =W (J #[V I (Ln.bad 1 (Ln.rows s.data.toList)).1] 3 (0,0))/\
 a.heap[w.heap.size+1+1]? =W (J #[V I (Ln.bad 1 (Ln.rows s.data.toList)).2] 24 (0,0))/\Below w.heap.size w a
theorem SI.far{s:ByteArray}{w:World}{p t q:Nat}{c d:World}(k:SI s w p t c)(a:Far (·=q) c d)(n:w.heap.size+3<=p)(m:p < q)(o:q < p+4):SI s w p t d:=by
 obtain⟨⟨v,f,l⟩,g,j,i,e,b⟩:=k;exact⟨⟨v,a.heap f (by omega),aw l a (by omega)⟩,a.heap g (by omega),a.heap j (by omega),a.heap i (by omega),e,b.trans (a.to_below b.size (by omega))⟩
theorem SX.far{s:ByteArray}{w:World}{p q:Nat}{c d:World}(g:SX s w c)(a:Far (·=q) c d)(k:w.heap.size+3<=p)(l:p < q):SX s w d:=by
 obtain⟨f,e,i,j,b⟩:=g;exact⟨f,a.heap e (by omega),a.heap i (by omega),a.heap j (by omega),b.trans (a.to_below b.size (by omega))⟩
theorem RS.fars{b q:Nat}{c B l D:World}(d:Far (·=q) c B)(f:RS b B l)(g:Far (·=q) l D)(j:b≠q)(i:5≠q):RS b c D:=
 ⟨Nat.le_trans d.size (Nat.le_trans f.1 g.size),λk x a e=>g.heap (f.2 k x a (d.heap e (by rcases a with rfl|rfl;exact j;exact i))) (by rcases a with rfl|rfl;exact j;exact i)⟩
theorem RS.of_far{c:Nat}{D:Nat->Prop}{a d:World}(b:Far D a d)(i:¬D c)(g:¬D 5):RS c a d:=
 ⟨b.size,λk x f e=>b.heap e (by rcases f with rfl|rfl;exact i;exact g)⟩
theorem RS.trans{a:Nat}{b B f:World}(c:RS a b B)(k:RS a B f):RS a b f:=⟨Nat.le_trans c.1 k.1,λi x d e=>k.2 i x d (c.2 i x d e)⟩
theorem gP{w:World}{i:Ending->World->Prop}(p:Nat)(b:World)(v:Value)(e d:Int)(a:Act)(o:b.heap[w.heap.size]? =W (J #[v] 101 (0,0)))(q:b.heap[w.heap.size+1]? =W (J #[V I e] 3 (0,0)))(z:∃x l m,v=Y x l m)
(u:b.heap[w.heap.size+1+1]? =W (J #[V I d] 24 (0,0)))(D:w.heap.size+3<=p)
(r:b.heap[p+2]? =W (.deferred (W [])))(g:a.tmps[2]? =W (Z (W ⟨w.heap.size,0,O⟩)))(k:a.tmps[3]? =W (Z (W ⟨w.heap.size+1,0,O⟩)))(j:a.tmps[4]? =W (Z (W ⟨w.heap.size+1+1,0,O⟩)))(f:a.defers=[{ target:=.collected (p+2),args:=#[] }])
(y:∀n,Far (·=p+2) b n->i (ρ (.tuple #[v,V I e,V I d])) n):
 bodyPostM Fence.wide 5 π f52 i .ret a b:=by
 obtain⟨E,C⟩:=a;simp only at f g k j;subst f;refine⟨by simp,.inl ⟨_,_,rfl,run_takeDeferred r,?_⟩⟩;have c:=aI b (p+2) (.deferred O);have A:=zF (c.heap o (by omega)) 0 rfl;have s:=zF (c.heap q (by omega)) 0 rfl;have t:=zF (c.heap u (by omega)) 0 rfl;refine⟨.tuple #[v,V I e,V I d],?_,y _ c⟩;obtain⟨x,l,m,rfl⟩:=z;simp[results,results52,go_sem,g,k,j,A,s,t]
theorem fj{w:World}{g:Ending->World->Prop}(b:World)(v:Value)(d c:Int)(a:Act)(m:b.heap[w.heap.size]? =W (J #[v] 101 (0,0)))(n:b.heap[w.heap.size+1]? =W (J #[V I d] 3 (0,0)))(s:∃x l k,v=Y x l k)
(q:b.heap[w.heap.size+1+1]? =W (J #[V I c] 24 (0,0)))
(f:a.tmps[2]? =W (Z (W ⟨w.heap.size,0,O⟩)))(j:a.tmps[3]? =W (Z (W ⟨w.heap.size+1,0,O⟩)))(i:a.tmps[4]? =W (Z (W ⟨w.heap.size+1+1,0,O⟩)))(e:a.defers=[])
(r:g (ρ (.tuple #[v,V I d,V I c])) b):
 bodyPostM Fence.wide 5 π f52 g .ret a b:=by
 obtain⟨y,u⟩:=a;simp only at e f j i;subst e;have t:=zF m 0 rfl;have o:=zF n 0 rfl;have p:=zF q 0 rfl;refine⟨.tuple #[v,V I d,V I c],?_,r⟩;obtain⟨x,l,k,rfl⟩:=s;simp[results,results52,go_sem,f,j,i,t,o,p]
theorem cu{w a:World}(d c b u0 u1 u2:Value)(g:a.heap[w.heap.size]? =W (J #[u0] 101 (0,0)))(f:a.heap[w.heap.size+1]? =W (J #[u1] 3 (0,0)))(e:a.heap[w.heap.size+1+1]? =W (J #[u2] 24 (0,0))):
 (((a.setCell ⟨w.heap.size,0,O⟩ d).setCell ⟨w.heap.size+1,0,O⟩ c).setCell ⟨w.heap.size+1+1,0,O⟩ b).heap[w.heap.size]? =W (J #[d] 101 (0,0))/\
 (((a.setCell ⟨w.heap.size,0,O⟩ d).setCell ⟨w.heap.size+1,0,O⟩ c).setCell ⟨w.heap.size+1+1,0,O⟩ b).heap[w.heap.size+1]? =W (J #[c] 3 (0,0))/\
 (((a.setCell ⟨w.heap.size,0,O⟩ d).setCell ⟨w.heap.size+1,0,O⟩ c).setCell ⟨w.heap.size+1+1,0,O⟩ b).heap[w.heap.size+1+1]? =W (J #[b] 24 (0,0)):=by
 refine⟨?_,?_,?_⟩
 ·exact(Below.heap_setCell _ _ _ _ (by show w.heap.size≠w.heap.size+1+1;omega)).trans ((Below.heap_setCell _ _ _ _ (by show w.heap.size≠w.heap.size+1;omega)).trans (ai g 0 _))
 ·exact(Below.heap_setCell _ _ _ _ (by show w.heap.size+1≠w.heap.size+1+1;omega)).trans (ai ((Below.heap_setCell _ _ _ _ (by show w.heap.size+1≠w.heap.size;omega)).trans f) 0 _)
 ·exact ai ((Below.heap_setCell _ _ _ _ (by show w.heap.size+1+1≠w.heap.size+1;omega)).trans ((Below.heap_setCell _ _ _ _ (by show w.heap.size+1+1≠w.heap.size;omega)).trans e)) 0 _
theorem wQ:(prog.info? 140).map (λi=>(i.zero,i.size,i.bytes))=W (W (γ #[V I 0,V I 0,U ⟨#[]⟩]),3,32):=by kernel_rfl
def Ao(s:ByteArray)(w:World)(e:Ending)(w':World):Prop:=
 (∃v,e=ρ (.tuple #[v,V I (Ln.split s.data.toList).2.1,V I (Ln.split s.data.toList).2.2])/\AC w.heap.size v (Ln.split s.data.toList).1 w')/\Below w.heap.size w w'
end
end Go.Proofs.YtbikgdhbiebhcaaGreatDoor
