/- Part 1. -/
import Derived.Test.YtbikgdhbiebhcaaGreatDoorV00
import Derived.Deep.RegionHeld3
import Derived.Laws.StructEq
import Derived.KernelRfl
import Derived.Lib.AppendIntMem
import Derived.Lib.SlBytesConst
import Derived.Deep.Cut
import Derived.Deep.CutRange
import Derived.BigGuard
import Derived.Deep.DrawnRows
import Derived.BigRegion
import Derived.Deep.Draws
import Derived.RangeFuncNested
import Derived.RangeFuncCalls
import Derived.RangeFuncLeaves
import Derived.OwnWalkIn
set_option linter.unusedVariables false
set_option linter.unusedSimpArgs false
set_option maxRecDepth 100000
set_option maxHeartbeats 2000000
open Go.Value renaming int -> V, string -> U, slice -> Y, pointer -> Z, func -> φ, agg -> γ, bool -> β
open Go.IntKind renaming i64 -> I
open Option renaming some -> W, none -> O
open Go.Obj renaming cells -> J
open Go.Ending renaming returned -> ρ
open Go.Proofs.Tryz renaming prog -> π
open Nat renaming le_refl -> η
open Go.RowKit.Below renaming refl -> ζ
namespace Go.Proofs.YtbikgdhbiebhcaaGreatDoor
open Go.RowKit Tryz
theorem su(l:Ln.B):(0:Int)<=((Ln.dec l).1:Int)/\((Ln.dec l).1:Int)<=2147483647:=by
 refine⟨by omega,?_⟩;unfold Ln.dec;have c:=Ln.kq l 0;have b:=Ln.kq l 1;have a:=Ln.kq l 2;have d:=Ln.kq l 3;rcases Lib.decodeN_shape l.length (Ln.nat l 0) (Ln.nat l 1) (Ln.nat l 2) (Ln.nat l 3)with ⟨_,e⟩|⟨_,_,_,_,e⟩|⟨_,_,_,_,_,_,e⟩|⟨_,_,_,_,_,_,_,e⟩|e;all_goals rw[e]
 all_goals simp only
 all_goals omega
theorem rR(l:Ln.B):(l.flatMap Tp.esc).length<=4 * l.length:=by
 have:=(Tp.aD l).2;simp only[Tp.quote,zO,zP,List.length_nil]at this;omega
theorem cE{T e:TypeId}{B c:Nat}{b:List Value}{w w':World}(a:Lib.IsBuilderF T e B c b w)(f:Below w.heap.size w w'):Lib.IsBuilderF T e B c b w':=by
 have i:∀p,Lib.BuilderAtF T e B c p b w->Lib.BuilderAtF T e B c p b w':=by
  rintro p ⟨q,v,j,d,l⟩;refine⟨q,v,(f.block _ (lt_of_heap j)).trans j,⟨d.1,?_⟩,l⟩;rcases d.2 with a|⟨g,cap,o,n,rfl,m,k,rest⟩
  ·exact .inl a
  ·exact .inr ⟨g,cap,o,n,rfl,m,(f.block _ (lt_of_heap k)).trans k,rest⟩
 rcases a with a|a
 ·exact .inl (i _ a)
 ·exact .inr (i _ a)
theorem bo(w:World):Lib.IsBuilderF 38 5 w.heap.size w.heap.size [] (w.alloc (J #[Z O,Y O 0 0] 38)):=
 .inl ⟨η _,Y O 0 0,af w _,World.ownsRowF_of (World.ownsRow_nil _ _ _ _),by simp[Value.ownBlock]⟩
theorem j3(s:ByteArray)(dr:s.size<=1000)(av:Ln.right s.data.toList=true)(w:World)(bR:Glob w):Calls π 6 #[U s] w λe w'=>e=ρ (.tuple #[U ⟨(Tp.quote s.data.toList).toArray⟩,V I 0])/\Below w.heap.size w w':=by
 have b1:=bt s (by omega) w bR;rw[av]at b1
 go_enter func6,ntmps6
 go_wp2_with fail
 refine b1.mono ?_;rintro e bn ⟨rfl,be⟩;clear b1;have cT:=(bo bn).alloc (J #[V .i32 34] 21);obtain⟨b,bx⟩:∃b,bn.heap.size=b:=⟨_,rfl⟩;have f:=cN b b [] [34] (b+1) 1 rfl (by omega) (by simp) ((bn.alloc (J #[Z O,.slice O 0 0] 38)).alloc (J #[V .i32 34] 21)) (by rw[<-bx];exact cT) (by simp) (by simp;omega) (by rw[<-bx];exact ah _ _ _ (by simp)) (by omega);have bD:w.heap.size<=b:=by rw[<-bx];exact be.size
 have cl:Below w.heap.size w ((bn.alloc (J #[Z O,.slice O 0 0] 38)).alloc (J #[V .i32 34] 21)):=(be.alloc be.size _).alloc (by simp;have:=be.size;omega) _
 go_wp2_with fail
 refine f.mono ?_;rintro e bs ⟨rfl,an,P,g⟩;have N:Below w.heap.size w bs:=cl.trans (P.mono bD);have dm:b < bs.heap.size:=by have:=P.size;simp at this;omega
 clear f cT cl P g be;obtain⟨d,da⟩:∃d,bs.heap.size=d:=⟨_,rfl⟩;obtain⟨dv,di,cv⟩:=zx3 bR av N;clear bR av N
 go_wp2_with fail
 go_loopw [7,8,9,39,45,53] (λ_ _ _ _ _ _ wr=>∃pos:Nat,wr.heap[d]? =some (.stringIter s pos)/\Ln.right (s.data.toList.drop pos)=true/\pos<=s.size/\Below w.heap.size w wr/\Lib.IsBuilderF 38 5 b b (Lib.byteCells (34::(s.data.toList.take pos).flatMap Tp.esc)) wr) (λ_ _ _ _ _ _ wr=>s.size - wr.iterPos d)
 case atStart=>exact⟨0,by rw[<-da];exact World.iter_heap bs s 0,by rw[List.drop_zero];exact di.out,z_ _,cv.out.alloc cv.out.size _,an.alloc _⟩
 case round=>
  obtain⟨pos,o,ba,ds,P,an⟩:=hrel;by_cases a9:pos < s.size
  ·have bm:∀T,(Instr.next (Z (some ⟨d,0,O⟩)) true T).run π wr=_:=λT=>Lib.run_next_any_at wr d s pos T o a9
   rw[aX]at bm;have a1:s.data.toList.drop pos≠[]:=by
    intro e;have:=congrArg List.length e;simp only[zZ,ap,List.length_nil]at this;omega
   have a6:Ln.dec (s.data.toList.drop pos)≠(65533,1):=by
    intro e;rw[Ln.cJ _ a1 e]at ba;simp at ba
   have G:=lV _ a1 a6;have bk:=Ln.bF _ a1 a6;rw[ba,List.drop_drop]at bk;have c2:=Ln.dq (s.data.toList.drop pos);have u:=Ln.dX _ a1;have ca:=su (s.data.toList.drop pos);rw[zZ,ap]at u;have b5:s.data.toList.take (pos+(Ln.dec (s.data.toList.drop pos)).2)=s.data.toList.take pos++(s.data.toList.drop pos).take (Ln.dec (s.data.toList.drop pos)).2:=List.take_add;obtain⟨n,c0⟩:∃n,(Ln.dec (s.data.toList.drop pos)).2=n:=⟨_,rfl⟩;obtain⟨a,av⟩:∃a:Int,((Ln.dec (s.data.toList.drop pos)).1:Int)=a:=⟨_,rfl⟩;rw[c0]at bm bk c2 u b5 G;rw[av]at bm G ca;have u:pos+n<=s.size:=by omega
   have cS:∀W,Lib.IsBuilderF 38 5 b b (Lib.byteCells (34::(s.data.toList.take pos).flatMap Tp.esc)++(yy a).flatMap Lib.runeCells) W->Lib.IsBuilderF 38 5 b b (Lib.byteCells (34::(s.data.toList.take (pos+n)).flatMap Tp.esc)) W:=by
    intro W h;rw[G,<-bc]at h;rw[b5,List.flatMap_append];exact h
   have c4:(Lib.byteCells (34::(s.data.toList.take pos).flatMap Tp.esc)).length+16<=1000000:=by
    rw[Lib.byteCells_length,zO];have:=rR (s.data.toList.take pos);have:=List.length_take_le pos s.data.toList;omega
   have ab:wr.iterPos d=pos:=by simp[World.iterPos,o]
   have b4:=an.iterAt o (pos+n);have cc:=bL wr d s s pos (pos+n) o;have cf:Below w.heap.size w (wr.iterAt d s (pos+n)):=P.trans (bu _ _ _ _ _ (by omega));have dg:(wr.iterAt d s (pos+n)).heap.size=wr.heap.size:=Lib.iterAt_size ..;have dn:d < wr.heap.size:=lt_of_heap o;have ac:=zD bk.symm;have R:=zD cS;obtain⟨D,b9⟩:∃D,Lib.byteCells (34::(s.data.toList.take pos).flatMap Tp.esc)=D:=⟨_,rfl⟩;rw[b9]at R c4 b4;generalize hW:wr.iterAt d s (pos+n)=W at *;clear bk cS G b5 c0 av a1 a6 ba an b9 P o
   go_wp2_with fail
   refine(qg W).mono ?_;rintro e c ⟨rfl,A,N⟩;have E:=zD (cf.trans (N.mono (by omega)));have L:=cE b4 N;have bq:=zD ((N.block d (by omega)).trans cc);have dA:d < c.heap.size:=by have:=N.size;omega
   have dp:w.heap.size<=c.heap.size:=E.out.size;rw[dg]at A;clear cf N b4 cc;by_cases a5:a=10
   ·obtain rfl:a=10:=a5
    have F:=A.look_in mA underlying46 (zeroValue21 c) (V .i32 10) (eP 10 (by decide) (by decide)) true (V .i32 110) (by simp[yX]) (by simp[yX]);have f:=cN b b _ [92,110] c.heap.size 2 rfl (by omega) (by simp) (c.alloc (J #[V .i32 92,V .i32 110] 21)) (L.alloc _) (by omega) (by simp;omega) (af c _) (by omega);have y:=E.out.alloc E.out.size (J #[V .i32 92,V .i32 110] 21);clear A L
    go_wp2_with fail
    refine f.mono ?_;rintro e j ⟨rfl,z,k,g⟩;have M:=g _ _ (aa _ bq.out) (by simp;omega) (λal ao e=>by cases e);clear f F
    go_wp2_with fail
    go_roundw
    case rel=>exact⟨_,M,ac.out,u,y.trans (k.mono (by omega)),R.out _ z⟩
    case measure=>rw[show j.iterPos d=pos+n by simp[World.iterPos,M],ab];omega
   by_cases bb:a=9
   ·obtain rfl:a=9:=bb
    have F:=A.look_in mA underlying46 (zeroValue21 c) (V .i32 9) (eP 9 (by decide) (by decide)) true (V .i32 116) (by simp[yX]) (by simp[yX]);have f:=cN b b _ [92,116] c.heap.size 2 rfl (by omega) (by simp) (c.alloc (J #[V .i32 92,V .i32 116] 21)) (L.alloc _) (by omega) (by simp;omega) (af c _) (by omega);have y:=E.out.alloc E.out.size (J #[V .i32 92,V .i32 116] 21);clear A L
    go_wp2_with fail
    refine f.mono ?_;rintro e j ⟨rfl,z,k,g⟩;have M:=g _ _ (aa _ bq.out) (by simp;omega) (λal ao e=>by cases e);clear f F
    go_wp2_with fail
    go_roundw
    case rel=>exact⟨_,M,ac.out,u,y.trans (k.mono (by omega)),R.out _ z⟩
    case measure=>rw[show j.iterPos d=pos+n by simp[World.iterPos,M],ab];omega
   by_cases a0:a=13
   ·obtain rfl:a=13:=a0
    have F:=A.look_in mA underlying46 (zeroValue21 c) (V .i32 13) (eP 13 (by decide) (by decide)) true (V .i32 114) (by simp[yX]) (by simp[yX]);have f:=cN b b _ [92,114] c.heap.size 2 rfl (by omega) (by simp) (c.alloc (J #[V .i32 92,V .i32 114] 21)) (L.alloc _) (by omega) (by simp;omega) (af c _) (by omega);have y:=E.out.alloc E.out.size (J #[V .i32 92,V .i32 114] 21);clear A L
    go_wp2_with fail
    refine f.mono ?_;rintro e j ⟨rfl,z,k,g⟩;have M:=g _ _ (aa _ bq.out) (by simp;omega) (λal ao e=>by cases e);clear f F
    go_wp2_with fail
    go_roundw
    case rel=>exact⟨_,M,ac.out,u,y.trans (k.mono (by omega)),R.out _ z⟩
    case measure=>rw[show j.iterPos d=pos+n by simp[World.iterPos,M],ab];omega
   have cb:∀p∈yX,p.1≠V .i32 a:=by
    intro p a9 e;simp only[yX,List.mem_cons,List.not_mem_nil,or_false]at a9;rcases a9 with rfl|rfl|rfl
    ·exact a5 (by injection e with _ e;exact e.symm)
    ·exact bb (by injection e with _ e;exact e.symm)
    ·exact a0 (by injection e with _ e;exact e.symm)
   have F:=A.look_out mA underlying46 (zeroValue21 c) (V .i32 a) (eP a (by omega) ca.2) true cb;have b8:RA (c.alloc (J #[V .i32 34,V .i32 92] 21)) (some ⟨c.heap.size,0,O⟩) c.heap.size 0 ([34,92].map (Value.int .i32)):=λ_=>⟨rfl,by simp,λi v a6=>by rw[Nat.zero_add,ae (af _ _) i];simpa using a6⟩;have H:=cn a [34,92] _ _ 0 2 2 rfl (by omega) _ b8;have y:=E.out.alloc E.out.size (J #[V .i32 34,V .i32 92] 21);have z:=L.alloc (J #[V .i32 34,V .i32 92] 21);have b0:=zD (aa (J #[V .i32 34,V .i32 92] 21) bq.out);clear A L b8;by_cases G:a=34\/a=92
   ·rw[show decide (a∈[34,92])=true by simp[G]]at H
    have S:yy a=[92,a]:=by unfold yy;rw[if_neg a5,if_neg bb,if_neg a0,if_pos G]
    go_wp2_with fail
    refine H.mono ?_;rintro e w5 ⟨rfl,rfl⟩;clear H F;have f:=cN b b _ [92,a] (c.heap.size+1) 2 rfl (by omega) (by intro x a3;simp at a3;omega) ((c.alloc (J #[V .i32 34,V .i32 92] 21)).alloc (J #[V .i32 92,V .i32 a] 21)) (z.alloc _) (by omega) (by simp;omega) (ah _ _ _ (by simp)) (by omega);have k:=y.alloc (by simp;omega) (J #[V .i32 92,V .i32 a] 21)
    go_wp2_with fail
    refine f.mono ?_;rintro e j ⟨rfl,C,r,g⟩;have l:=g _ _ (aa _ b0.out) (by simp;omega) (λal ao e=>by cases e);clear f
    go_wp2_with fail
    go_roundw
    case rel=>exact⟨_,l,ac.out,u,k.trans (r.mono (by omega)),R.out _ (by rw[S];exact C)⟩
    case measure=>rw[show j.iterPos d=pos+n by simp[World.iterPos,l],ab];omega
   rw[show decide (a∈[34,92])=false by simp;omega]at H;by_cases b2:32<=a/\a≠127
   ·have X:=em a (c.alloc (J #[V .i32 34,V .i32 92] 21))
    rw[show (decide (32<=a)&&!decide (a=127))=true by simp[b2]]at X;have S:yy a=[a]:=by unfold yy;rw[if_neg a5,if_neg bb,if_neg a0,if_neg G,if_pos b2]
    go_wp2_with fail
    refine H.mono ?_;rintro e w5 ⟨rfl,rfl⟩;clear H F
    go_wp2_with fail
    refine X.mono ?_;rintro e w5 ⟨rfl,rfl⟩;clear X;have f:=cN b b _ [a] (c.heap.size+1) 1 rfl (by omega) (by intro x a3;simp at a3;omega) ((c.alloc (J #[V .i32 34,V .i32 92] 21)).alloc (J #[V .i32 a] 21)) (z.alloc _) (by omega) (by simp;omega) (ah _ _ _ (by simp)) (by omega);have k:=y.alloc (by simp;omega) (J #[V .i32 a] 21)
    go_wp2_with fail
    refine f.mono ?_;rintro e j ⟨rfl,C,r,g⟩;have l:=g _ _ (aa _ b0.out) (by simp;omega) (λal ao e=>by cases e);clear f
    go_wp2_with fail
    go_roundw
    case rel=>exact⟨_,l,ac.out,u,k.trans (r.mono (by omega)),R.out _ (by rw[S];exact C)⟩
    case measure=>rw[show j.iterPos d=pos+n by simp[World.iterPos,l],ab];omega
   have X:=em a (c.alloc (J #[V .i32 34,V .i32 92] 21));rw[show (decide (32<=a)&&!decide (a=127))=false by simp;omega]at X;have S:yy a=[92,120,((Tp.hexD (a.toNat / 16)).toNat:Int),((Tp.hexD (a.toNat % 16)).toNat:Int)]:=by unfold yy;rw[if_neg a5,if_neg bb,if_neg a0,if_neg G,if_neg b2]
   go_wp2_with fail
   refine H.mono ?_;rintro e w5 ⟨rfl,rfl⟩;clear H F
   go_wp2_with fail
   refine X.mono ?_;rintro e w5 ⟨rfl,rfl⟩;clear X;obtain⟨dC,c6,db,c9,cm,dl⟩:=vG a (by omega);obtain⟨q,bw⟩:∃q:Int,((Tp.hexD (a.toNat / 16)).toNat:Int)=q:=⟨_,rfl⟩;obtain⟨t,b6⟩:∃t:Int,((Tp.hexD (a.toNat % 16)).toNat:Int)=t:=⟨_,rfl⟩;obtain⟨dW,ch⟩:∃m:Int,a % 16=m:=⟨_,rfl⟩;rw[ch]at c9 cm;clear ch;rw[bw]at c6 db;rw[b6]at cm dl;rw[bw,b6]at S;generalize hY:c.alloc (J #[V .i32 34,V .i32 92] 21)=Y at *;have d0:(0<=q/\q<=255)/\0<=t/\t<=255:=by
    have:=UInt8.toNat_lt (Tp.hexD (a.toNat / 16));have:=UInt8.toNat_lt (Tp.hexD (a.toNat % 16));omega
   have dj:Y.heap.size=c.heap.size+1:=by rw[<-hY];simp
   have f:=cN b b _ [92,120,q,t] (c.heap.size+1) 4 rfl (by omega) (by intro x a3;simp at a3;omega) (Y.alloc (J #[V .i32 92,V .i32 120,V .i32 q,V .i32 t] 21)).drew (z.alloc _) (by omega) (by show b<=(Y.alloc _).heap.size;simp;omega) (by rw[<-dj];exact af Y _) (by omega);have dc:=zD f;have k:Below w.heap.size w (Y.alloc (J #[V .i32 92,V .i32 120,V .i32 q,V .i32 t] 21)).drew:=(y.alloc (by omega) (J #[V .i32 92,V .i32 120,V .i32 q,V .i32 t] 21)).drew;have c1:=zD k;have ct:(Y.alloc (J #[V .i32 92,V .i32 120,V .i32 q,V .i32 t] 21)).drew.heap[d]? =some (.stringIter s (pos+n)):=aa (J #[V .i32 92,V .i32 120,V .i32 q,V .i32 t] 21) b0.out;have ck:=zD ct;clear k ct;clear cb bw b6 f
   go_wp2_with fail
   go_region_held3 (λ_=>True) (exact trivial) (first|(go_at_call 12;refine(dc.out).mono ?_;rintro e j ⟨rfl,C,r,g⟩))
   have l:=g _ _ ck.out (by simp;omega) (λal ao e=>by cases e);have b3:=R.out _ (by rw[S];exact C);have a4:=c1.out.trans (r.mono (by omega));clear C r g
   go_wp2_with fail
   go_roundw
   case rel=>exact⟨_,l,ac.out,u,a4,b3⟩
   case measure=>rw[show j.iterPos d=pos+n by simp[World.iterPos,l],ab];omega
   case roundEnd=>
    have l:=g _ _ ck.out (by simp;omega) (λal ao e=>by cases e);have b3:=R.out _ (by rw[S];exact C);have a4:=c1.out.trans (r.mono (by omega));exact⟨⟨_,l,ac.out,u,a4,b3⟩,by rw[show j.iterPos d=pos+n by simp[World.iterPos,l],ab];omega⟩
  ·have bm:∀T,(Instr.next (Z (some ⟨d,0,O⟩)) true T).run π wr=_:=λT=>Lib.run_next_end_at wr d s pos T o a9
   have f:=cN b b _ [34] wr.heap.size 1 rfl (by omega) (by simp) (wr.alloc (J #[V .i32 34] 21)) (an.alloc _) (by
    rw[Lib.byteCells_length,zO];have:=rR (s.data.toList.take pos);have:=List.length_take_le pos s.data.toList;omega) (by simp;have:=lt_of_heap o;omega) (af wr _) (by have:=lt_of_heap o;omega)
   have df:=P.alloc P.size (J #[V .i32 34] 21);have dJ:=lt_of_heap o;rw[zR (by rw[ap];omega)]at f;clear o an ba
   go_wp2_with fail
   refine f.mono ?_;rintro e j ⟨rfl,C,r,g⟩;have a4:=df.trans (r.mono bD);have c3:=Tryz.Builder_String_any_f b b (Tp.quote s.data.toList) j (by
    rw[show Lib.byteCells (Tp.quote s.data.toList)=Lib.byteCells (34::s.data.toList.flatMap Tp.esc)++[34].flatMap Lib.runeCells from bc (34::s.data.toList.flatMap Tp.esc) [34]];exact C) (by have:=r.size;simp at this;omega)
   clear f
   go_wp2_with fail
   refine c3.mono ?_;rintro e w5 ⟨rfl,_,c5⟩
   go_wp2_with fail
   go_ret2
   exact⟨rfl,a4.trans (c5.mono bD)⟩
theorem wX(w:World):(isAgg 3).run π w=.ok false w:=by kernel_rfl
theorem xE(w:World):(isAgg 9).run π w=.ok false w:=by kernel_rfl
theorem tW:prog.underlying 30=W (.struct (prog.fieldsOf 30)):=by kernel_rfl
theorem uR:prog.stoodInHeld 30=false:=by kernel_rfl
theorem vH:prog.eqGuardType prog.depth 30=false:=by kernel_rfl
theorem wH:(prog.fieldsOf 30).toList=[{ name:= "Kind",type:=3,offset:=0,embedded:=false,tag:= "",pkgPath:= "",byteOffset:=0 },{ name:= "N",type:=3,offset:=1,embedded:=false,tag:= "",pkgPath:= "",byteOffset:=8 },{ name:= "S",type:=9,offset:=2,embedded:=false,tag:= "",pkgPath:= "",byteOffset:=16 }]:=by kernel_rfl
theorem wS(d:Nat)(j i k e:Int)(g f:ByteArray)(w:World):(Op.equalIn (d+1+1) 30 (γ #[V I j,V I i,U g]) (γ #[V I k,V I e,U f])).run π w=.ok ((j==k)&&((i==e)&&(g.toList==f.toList))) w:=by
 have s:=run_equalIn_int (P:=π) w d 3 I I j k underlying3;have p:=run_equalIn_int (P:=π) w d 3 I I i e underlying3;have t:=run_equalIn_string (P:=π) w d 9 g f underlying9;rw[run_equalIn_struct (P:=π) w (d+1) 30 _ _ tW uR,wH];have q:∀(a b:Value) (c:Value),(part 3 #[a,b,c] 0).run π w=.ok a w:=λa b c=>by unfold part;simp[Sem.run_bind,wX,Result.andThen]
 have n:∀(a b:Value) (c:Value),(part 3 #[a,b,c] 1).run π w=.ok b w:=λa b c=>by unfold part;simp[Sem.run_bind,wX,Result.andThen]
 have l:∀(a b:Value) (c:Value),(part 9 #[a,b,c] 2).run π w=.ok c w:=λa b c=>by unfold part;simp[Sem.run_bind,xE,Result.andThen]
 cases o:(j==k)<;>cases m:(i==e)<;>cases r:(g.toList==f.toList)<;>simp[Op.eqFields,Sem.run_bind,q,n,l,s,p,t,o,m,r,Result.andThen]
theorem nP(c a f d:Int)(e b:ByteArray)(w:World):(Op.equalIn 10000 30 (γ #[V I c,V I a,U e]) (γ #[V I f,V I d,U b])).run π w=.ok ((c==f)&&((a==d)&&(e.toList==b.toList))) w:=wS 9998 c a f d e b w
def eqL(c a:Int)(e:ByteArray)(f d:Int)(b:ByteArray):Bool:=(c==f)&&((a==d)&&(e.toList==b.toList))
theorem jp(c a:Int)(e:ByteArray)(f d:Int)(b:ByteArray):eqL c a e f d b=decide ((c=f/\a=d)/\e.data.toList=b.data.toList):=by
 unfold eqL;rw[uP,Bool.eq_iff_iff];simp[and_assoc]
theorem xw(c a f d:Int)(e b:ByteArray)(w:World):(binOp .neq 30 (γ #[V I c,V I a,U e]) (γ #[V I f,V I d,U b])).run π w=.ok (β (!(eqL c a e f d b))) w:=by
 rw[run_neq_struct,nP];rfl
theorem xB(c a f d:Int)(e b:ByteArray)(w:World):(binOp .eql 30 (γ #[V I c,V I a,U e]) (γ #[V I f,V I d,U b])).run π w=.ok (β (eqL c a e f d b)) w:=by
 rw[run_eql_struct,nP];rfl
attribute [go_sem ↓] xB
attribute [go_sem ↓] xw
attribute [go_sem] vH
end Go.Proofs.YtbikgdhbiebhcaaGreatDoor
namespace Tp
def t1:B:=[98,58,32,91,49,93,10,97,58,32,38,120,32,91,49,93,10,99,58,32,42,120,10]
def t2:B:=[123,99,58,32,91,49,93,44,32,39,97,39,58,32,91,49,93,44,32,34,98,34,58,32,91,49,93,125,32,35,32,120]
def outT:B:=[34,97,34,58,32,38,97,49,10,32,32,45,32,49,10,34,98,34,58,32,42,97,49,10,34,99,34,58,32,42,97,49,10]
theorem nr:Ln.split t1=([⟨1,0,[98,58,32,91,49,93]⟩,⟨2,0,[97,58,32,38,120,32,91,49,93]⟩,⟨3,0,[99,58,32,42,120]⟩],0,0):=by
 rw[eS t1 (by decide) (Ln.aH _ (by decide)) (by decide)];decide
theorem nl:Ln.split t2=([⟨1,0,t2⟩],0,0):=by
 rw[eS t2 (by decide) (Ln.aH _ (by decide)) (by decide)];decide
end Tp
namespace Tp
open Ln (right plainB)
theorem Dl:∀x:Fin 10,(UInt8.ofNat (48+x.val)).toNat=48+x.val:=by decide
theorem B9(n:Nat)(a:n < 10):(UInt8.ofNat (48+n)).toNat=48+n:=Dl ⟨n,a⟩
theorem BC(a:B)(b:UInt8):valueOf (a++[b])=valueOf a * 10+(b.toNat - 48):=by simp[valueOf]
theorem BA:∀(b n k:Nat),n < 10 ^ k->1<=k->k<=b->(∀c∈digits b n,isDig c=true)/\digits b n≠[]/\valueOf (digits b n)=n/\(digits b n).length<=k
 |0,n,k,_,h1,h2=>by omega
 |b+1,n,k,h,h1,h2=>by
  unfold digits;by_cases d:n < 10
  ·rw[if_pos d]
   have:=B9 n d;refine⟨?_,by simp,?_,by simpa using h1⟩
   ·intro c a
    rw[List.mem_singleton]at a;subst a;simp only[isDig,this,zQ,decide_eq_true_eq];omega
   ·simp only[valueOf,List.foldl_cons,List.foldl_nil,this]
    omega
  ·rw[if_neg d]
   obtain⟨j,rfl⟩:∃j,k=j+1:=⟨k - 1,by omega⟩;have i:1<=j:=by
    rcases Nat.eq_zero_or_pos j with rfl|g
    ·simp at h;omega
    ·exact g
   have f:n % 10 < 10:=by omega
   have:=B9 (n % 10) f;obtain⟨e,o,l,m⟩:=BA b (n / 10) j (by rw[Nat.pow_succ]at h;omega) i (by omega);refine⟨?_,by simp,?_,by simp only[zP,zO,List.length_nil];omega⟩
   ·intro c a
    rcases List.mem_append.1 a with a|a
    ·exact e c a
    ·rw[List.mem_singleton]at a
     subst a;simp only[isDig,this,zQ,decide_eq_true_eq];omega
   ·rw[BC,l,this]
    omega
def okKey(x:Sc):Prop:=AK x=true/\x.s.length<=20/\right x.s=true
def D0(x:Sc):Int × B:=if x.k=3 then (2,x.s)else (1,scText x)
theorem Ci(a:UInt8)(b:isDig a=true):48<=a.toNat/\a.toNat<=57:=by simpa [isDig]using b
theorem Cf(n:Nat)(r:n<=999999999999999):resolve (itoa n)=W ⟨2,n,[]⟩/\okPlain (itoa n)=true/\(itoa n).length<=15:=by
 have e:itoa n=digits 20 n:=by simp[itoa]
 obtain⟨d,j,k,f⟩:=BA 20 n 15 (by omega) (by omega) (by omega);rw[e];obtain⟨b,t,c⟩:=List.exists_cons_of_ne_nil j;have g:=d b (by rw[c];simp);have a:=Ci b g;have i:(digits 20 n).all isDig=true:=List.all_eq_true.2 d;refine⟨?_,?_,f⟩
 ·have l:=e
  rw[c]at d j k f i l ⊢;unfold resolve;have m:¬(b::t:B)=[110,117,108,108]:=by intro e;simp only[List.cons.injEq]at e;rw[e.1]at a;revert a;decide
  have o:¬(b::t:B)=[116,114,117,101]:=by intro e;simp only[List.cons.injEq]at e;rw[e.1]at a;revert a;decide
  have p:¬(b::t:B)=[102,97,108,115,101]:=by intro e;simp only[List.cons.injEq]at e;rw[e.1]at a;revert a;decide
  simp only[m,o,p,if_false,g,if_true,i,k,l,true_and,and_true];rw[if_pos f]
 ·unfold okPlain
  have q:(digits 20 n==[45])=false:=by
   rw[beq_eq_false_iff_ne];intro e;rw[c]at e;simp only[List.cons.injEq]at e;rw[e.1]at a;revert a
   decide
  rw[q,show (digits 20 n).isEmpty=false by rw[c];rfl];rw[show (digits 20 n).all plainC=true from List.all_eq_true.2 λb c=>by have:=Ci b (d b c);simp[plainC,this]];rfl
theorem Ce(n:Nat)(o:n<=999999999999999)(p:1<=n):resolve (itoa (-(n:Int)))=W ⟨2,-(n:Int),[]⟩/\okPlain (itoa (-(n:Int)))=true/\(itoa (-(n:Int))).length<=16:=by
 have e:itoa (-(n:Int))=45::digits 20 n:=by
  unfold itoa;rw[if_pos (by omega),Int.natAbs_neg,Int.natAbs_natCast]
 obtain⟨a,g,j,i⟩:=BA 20 n 15 (by omega) (by omega) (by omega);have c:(digits 20 n).all isDig=true:=List.all_eq_true.2 a;rw[e];refine⟨?_,?_,by rw[zO];omega⟩
 ·unfold resolve
  have f:¬(45::digits 20 n:B)=[110,117,108,108]:=by intro e;simp only[List.cons.injEq]at e;exact absurd e.1 (by decide)
  have d:¬(45::digits 20 n:B)=[116,114,117,101]:=by intro e;simp only[List.cons.injEq]at e;exact absurd e.1 (by decide)
  have k:¬(45::digits 20 n:B)=[102,97,108,115,101]:=by intro e;simp only[List.cons.injEq]at e;exact absurd e.1 (by decide)
  simp only[f,d,k,if_false,show ¬isDig 45=true by decide,show (45:UInt8).toNat=45 from rfl,if_true,c,j,e,and_true,true_and];rw[if_pos i];rfl
 ·unfold okPlain
  have m:((45::digits 20 n:B)==[45])=false:=by
   rw[beq_eq_false_iff_ne];intro e;simp only[List.cons.injEq]at e;exact g e.2
  rw[m,List.all_cons];rw[show (digits 20 n).all plainC=true from List.all_eq_true.2 λb l=>by have:=Ci b (a b l);simp[plainC,this]];rfl
theorem Bj(x:Sc)(b:okKey x)(f:x.k≠3):resolve (scText x)=W x/\okPlain (scText x)=true/\(scText x).length<=16:=by
 obtain⟨k,n,s⟩:=x;obtain⟨b,_,_⟩:=b;simp only at f;unfold AK at b;unfold scText;simp only at b ⊢;by_cases e:k=0
 ·rw[if_pos e]at b ⊢
  simp only[zQ,beq_iff_eq,List.isEmpty_iff]at b;obtain⟨rfl,rfl⟩:=b;subst e;exact⟨rfl,rfl,by decide⟩
 rw[if_neg e]at b ⊢;by_cases d:k=1
 ·rw[if_pos d]at b ⊢
  simp only[zQ,Bool.or_eq_true,beq_iff_eq,List.isEmpty_iff]at b;obtain⟨rfl,b⟩:=b;subst d;rcases b with rfl|rfl
  ·exact⟨rfl,rfl,by decide⟩
  ·exact⟨rfl,rfl,by decide⟩
 rw[if_neg d]at b ⊢;by_cases c:k=2
 ·rw[if_pos c]at b ⊢
  simp only[zQ,decide_eq_true_eq,List.isEmpty_iff]at b;obtain⟨rfl,b⟩:=b;subst c;by_cases i:0<=n
  ·obtain⟨m,rfl⟩:=Int.eq_ofNat_of_zero_le i
   obtain⟨a,g,j⟩:=Cf m (by omega);exact⟨a,g,by omega⟩
  ·obtain⟨m,rfl⟩:∃m:Nat,n=-(m:Int):=⟨n.natAbs,by omega⟩
   exact Ce m (by omega) (by omega)
 ·rw[if_neg c]at b
  simp only[zQ,beq_iff_eq]at b;exact absurd b.1 f
theorem fF:∀(a b:B) (c:Bool),(∀d∈a,plainC d=true)->ptake 1 c (a++58::32::b)=a.length
 | [],b,c,_=>by cases c<;>rfl
 |d::a,b,c,h=>by
  have e:=h d (by simp);simp only[plainC,Bool.or_eq_true,zQ,decide_eq_true_eq,beq_iff_eq]at e;rw[List.cons_append,ptake,if_neg ?_,fF a b _ λx f=>h x (by simp[f])]
  ·simp
  ·simp only[Bool.or_eq_true,zQ,beq_iff_eq,decide_eq_true_eq,flowC]
   omega
theorem lL(a:B)(f:∀b∈a,plainC b=true)(i:a≠[]):trimR a=a:=by
 unfold trimR;have g:a.reverse≠[]:=by simpa using i
 obtain⟨b,t,c⟩:=List.exists_cons_of_ne_nil g;have d:b∈a:=by rw[<-List.mem_reverse,c];simp
 have:=f b d;rw[c,List.dropWhile_cons_of_neg,<-c,List.reverse_reverse];simp only[beq_iff_eq];intro e;simp only[plainC,e]at this;exact absurd this (by decide)
theorem ke(a b:B)(g:Bool)(j:okPlain a=true):one 1 g (a++58::32::b)=W (1,a,1,a.length):=by
 have i:=j;simp only[okPlain,zQ,List.all_eq_true,Bool.not_eq_true',beq_eq_false_iff_ne]at i;obtain⟨⟨f,m⟩,q⟩:=i;cases a with
 |nil=>simp at m
 |cons c t=>
  have l:ptake 1 g (c::(t++58::32::b))=t.length+1:=fF (c::t) b g f;have p:=lL (c::t) f (by simp);have o:=f c (by simp);have n:(c::(t++58::32::b)).take (t.length+1)=c::t:=by rw[List.take_succ_cons,List.take_left]
  have r:c.toNat=45->isB (t++58::32::b)=false:=by
   intro e;cases t with
   |nil=>exact absurd (by rw[UInt8.toNat_inj.1 (show c.toNat=(45:UInt8).toNat from e)]) q
   |cons d t'=>
    have k:=f d (by simp);simp only[plainC,Bool.or_eq_true,zQ,decide_eq_true_eq,beq_iff_eq]at k;simp only[List.cons_append,isB,beq_eq_false_iff_ne];omega
  simp only[plainC,Bool.or_eq_true,zQ,decide_eq_true_eq,beq_iff_eq]at o;rw[List.cons_append,one];simp only[l,n,p,j,if_true,zO];rw[if_neg (by omega),if_neg (by omega)];by_cases e:c.toNat=45
  ·rw[if_pos e,r e];rfl
  ·rw[if_neg e,if_neg (by omega),if_neg (by omega),if_neg (by omega),if_neg (by omega),if_neg (by omega),if_neg (by omega)]
theorem CU(x:Sc)(c:okKey x)(f:Bool)(d:B):one 1 f (scText x++58::32::d)=W ((D0 x).1,(D0 x).2,1,(scText x).length)/\∀a,fkey ⟨(D0 x).1,(D0 x).2,a⟩=W x:=by
 by_cases b:x.k=3
 ·have e:scText x=quote x.s:=by simp[scText,b]
  unfold D0;rw[if_pos b,e];refine⟨?_,λa=>?_⟩
  ·have l:=aD x.s
   have e:quote x.s++58::32::d=34::(x.s.flatMap esc++34::58::32::d):=by simp[quote]
   have j:(x.s.flatMap esc).length+2=(quote x.s).length:=by simp[quote]
   rw[e,one];simp only[show (34:UInt8).toNat=34 from rfl,true_or,if_true];rw[jH x.s (58::32::d) _ (by simp only[zP,zO];omega)];simp only[List.head?_cons,beq_self_eq_true,Bool.or_true,if_true,zP,zO,Option.some.injEq,Prod.mk.injEq,true_and];omega
  ·obtain⟨c,_,_⟩:=c
   simp only[AK,b,show ¬(3:Int)=0 by decide,show ¬(3:Int)=1 by decide,show ¬(3:Int)=2 by decide,if_false,zQ,beq_iff_eq,true_and]at c;obtain⟨k,n,s⟩:=x;simp only at c b;subst c b;rfl
 ·obtain⟨i,g,_⟩:=Bj x c b
  unfold D0;rw[if_neg b];exact⟨ke _ d f g,λa=>i⟩
def rowK:List Sc->B
 | []=>[125]
 |x::r=>scText x++58::32::55::44::32::rowK r
def DX:Nat->List Sc->List Tk
 |a,[]=>[⟨11,[],a⟩]
 |a,x::r=>⟨(D0 x).1,(D0 x).2,a⟩::⟨6,[],a+(scText x).length⟩::⟨1,[55],a+(scText x).length+2⟩::⟨7,[],a+(scText x).length+3⟩::DX (a+(scText x).length+5) r
theorem Cy(x:Sc)(e:okKey x):∃a t,scText x=a::t/\a.toNat≠32/\a.toNat≠35:=by
 by_cases c:x.k=3
 ·exact⟨34,x.s.flatMap esc++[34],by simp[scText,c,quote],by decide,by decide⟩
 ·obtain⟨_,b,_⟩:=Bj x e c
  simp only[okPlain,zQ,List.all_eq_true,Bool.not_eq_true']at b;cases d:scText x with
  |nil=>rw[d]at b;exact absurd b.1.2 (by simp)
  |cons a t=>
   have:=b.1.1 a (by rw[d];simp);simp only[plainC,Bool.or_eq_true,zQ,decide_eq_true_eq,beq_iff_eq]at this;exact⟨a,t,rfl,by omega,by omega⟩
theorem BU:∀(b:List Sc) (n a:Nat),(∀x∈b,okKey x)->6 * b.length+2<=n->toks n 1 true a (rowK b)=W (DX a b)/\toks n 1 false a (rowK b)=W (DX a b)
 | [],n,a,_,c=>by
  obtain⟨m,rfl⟩:∃m,n=m+2:=⟨n - 2,by simp at c;omega⟩;exact⟨rfl,rfl⟩
 |x::r,n,a,hk,c=>by
  obtain⟨m,rfl⟩:∃m,n=m+6:=⟨n - 6,by simp at c;omega⟩;obtain⟨u,_⟩:=BU r m (a+(scText x).length+5) (λo p=>hk o (by simp[p])) (by simp at c;omega);have l:=hk x (by simp);obtain⟨y,t,v,w,s⟩:=Cy x l;have j:∀i,toks (m+6) 1 i a (rowK (x::r))=W (DX a (x::r)):=by
   intro i;have g:=(CU x l i (55::44::32::rowK r)).1;have d:(scText x++58::32::55::44::32::rowK r).drop (scText x).length=58::32::55::44::32::rowK r:=List.drop_left;rw[rowK];generalize hT:(scText x).length=T at g d;obtain⟨f,k⟩:∃f,(((scText x++58::32::55::44::32::rowK r).getD (T - 1) 0).toNat==32)=f:=⟨_,rfl⟩;rw[v,List.cons_append]at g d k ⊢;rw[cH,if_neg w,if_neg (λe=>s e.1),g];simp only[d,k];rw[cH,if_neg (by decide),if_neg (by simp)];rw[show one 1 f (58::32::55::44::32::rowK r)=W (6,[],1,1)from rfl];simp only[List.drop_succ_cons,List.drop_zero];rw[ff,cH,if_neg (by decide),if_neg (by decide)];rw[show one 1 true (55::44::32::rowK r)=W (1,[55],1,1)from rfl];simp only[List.drop_succ_cons,List.drop_zero];rw[cH,if_neg (by decide),if_neg (λc=>absurd c.1 (by decide))];rw[show ∀q,one 1 q (44::32::rowK r)=W (7,[],1,1)from λ_=>rfl];simp only[List.drop_succ_cons,List.drop_zero];rw[ff];rw[show a+T+1+1+1+1+1=a+(scText x).length+5 by omega,u,DX,hT];rfl
  exact⟨j true,j false⟩
end Tp
namespace Go.Proofs.YtbikgdhbiebhcaaGreatDoor
open Go.RowKit Tryz
theorem gH{P:Program}{w:World}{a:Addr}(g:Fn)(x b:Array Value)(m:Mode):(store a (.func g x b) m).run P w=stored P w a (.func g x b) m:=run_store P w a _ m rfl
attribute [go_sem] gH
def xR(s:Tp.B):Value:=U ⟨s.toArray⟩
def scV(x:Tp.Sc):Value:=γ #[V I x.k,V I x.n,xR x.s]
def x8(x:Tp.Sc):Bool:=
 if x.k=0 then decide (x.n=0)&&decide (x.s=[])else if x.k=1 then decide (x.s=[])&&(decide (x.n=0)||decide (x.n=1))
 else if x.k=2 then decide (x.s=[])&&decide (-999999999999999<=x.n)&&decide (x.n<=999999999999999)else if x.k=3 then decide (x.n=0)&&Ln.right x.s else false
theorem eR(s:Tp.B):(⟨s.toArray⟩:ByteArray).data.toList=s:=rfl
theorem pZ(s:Tp.B):((⟨s.toArray⟩:ByteArray).toList==[])=decide (s=[]):=by
 rw[ByteArray.toList_eq,eR];cases s<;>simp
theorem lN(s:Tp.B):(⟨s.toArray⟩:ByteArray).toList.isEmpty=decide (s=[]):=by
 rw[ByteArray.toList_eq,eR];cases s<;>simp
theorem fy(x:Tp.Sc)(v:x.s.length<=1000)(w:World)(o:Glob w):Calls π 20 #[scV x] w λe w'=>e=ρ (β (x8 x))/\Below w.heap.size w w':=by
 obtain⟨k,n,s⟩:=x;simp only at v;unfold scV xR x8;obtain⟨a,f⟩:∃a:ByteArray,(⟨s.toArray⟩:ByteArray)=a:=⟨_,rfl⟩;obtain rfl:s=a.data.toList:=by rw[<-f]
 obtain⟨b,c⟩:∃b,decide (a.data.toList=[])=b:=⟨_,rfl⟩;have t:(a.toList==[])=b:=by rw[<-c];exact pZ _
 have A:a.toList.isEmpty=b:=by rw[<-c];exact lN _
 have E:(a.toList=[])=(b=true):=by
  rw[<-c];simp[ByteArray.toList_eq]
 have r:eqL k n a 0 0 ⟨#[]⟩=(decide (k=0)&&(decide (n=0)&&b)):=by
  unfold eqL;rw[show (a.toList==(⟨#[]⟩:ByteArray).toList)=b by rw[show (⟨#[]⟩:ByteArray).toList=[]by simp[ByteArray.toList_eq]];exact t];rw[Bool.eq_iff_iff];simp
 have g:=λW (y:Glob W)=>bt a (by rw[<-ap];omega) W y;simp only[c];generalize Ln.right a.data.toList=D at g ⊢;rw[f];have d:=(ζ w.heap.size w).alloc (η _) (J #[V I k,V I n,U a] 30);have q:=o.step d;have u:=zD (g _ q);clear g q o f c;by_cases j:k=0
 ·subst j
  go_enter func20,ntmps20
  go_wp2_with fail
  all_goals go_ret
  all_goals refine⟨?_,(ζ _ _).alloc (η _) _⟩
  all_goals simp[r]
 by_cases l:k=1
 ·subst l
  go_enter func20,ntmps20
  go_wp2_with fail
  all_goals go_ret
  all_goals refine⟨?_,(ζ _ _).alloc (η _) _⟩
  all_goals simp_all
  all_goals (try (rw[Bool.eq_iff_iff];simp))
  all_goals (try omega)
 by_cases i:k=2
 ·subst i
  go_enter func20,ntmps20
  go_wp2_with fail
  all_goals go_ret
  all_goals refine⟨?_,(ζ _ _).alloc (η _) _⟩
  all_goals simp_all
  all_goals (try (rw[Bool.eq_iff_iff];simp))
  all_goals (try omega)
 by_cases m:k=3
 ·subst m
  by_cases p:n=0
  ·subst p
   go_enter func20,ntmps20
   go_wp2_with fail
   refine u.out.mono ?_;rintro e C ⟨rfl,z⟩
   go_wp2_with fail
   go_ret
   exact⟨by simp,d.trans (z.mono d.size)⟩
  ·go_enter func20,ntmps20
   go_wp2_with fail
   go_ret
   exact⟨by simp[p],d⟩
 ·go_enter func20,ntmps20
  go_wp2_with fail
  go_ret
  exact⟨by simp[j,l,i,m],d⟩
theorem iz:∀(a n:Nat),n < 10 ^ a->1<=a->Tp.digits a n=Lib.decDigits n
 |0,n,_,h=>by omega
 |a+1,n,h,_=>by
  rw[Tp.digits,Lib.decDigits];by_cases b:n < 10
  ·rw[if_pos b,dif_pos b]
  ·rw[if_neg b,dif_neg b]
   have c:1<=a:=by
    rcases Nat.eq_zero_or_pos a with rfl|d
    ·simp at h;omega
    ·exact d
   rw[iz a (n / 10) (by rw[Nat.pow_succ]at h;omega) c]
theorem vA(n:Int)(b:-9223372036854775808<=n)(a:n<=9223372036854775807):Lib.itoa n=Tp.itoa n:=by
 unfold Lib.itoa Tp.itoa;rw[iz 20 n.natAbs (by omega) (by omega)];split
 ·rfl
 ·rw[show n.toNat=n.natAbs by omega]
theorem dP(n:Int)(b:-9223372036854775808<=n)(a:n<=9223372036854775807)(w:World)(d:Glob w):Calls π 40 #[V I n] w λe w'=>e=ρ (xR (Tp.itoa n))/\Below w.heap.size w w':=by
 refine(strconv_Itoa n b a w d.2.2.2.2).mono ?_;rintro e w' ⟨rfl,k,c,rfl⟩;exact⟨by rw[vA n b a];rfl,Lib.below_grow _ w (η _) k c⟩
theorem tJ(x:Tp.Sc)(w:World):Calls π 21 #[scV x] w λe w'=>e=ρ (xR [110,117,108,108])/\Below w.heap.size w w':=by
 unfold scV
 go_enter func21,ntmps21
 go_wp2
 go_ret
 exact⟨rfl,(ζ _ _).alloc (η _) _⟩
theorem pM(x:Tp.Sc)(w:World):Calls π 22 #[scV x] w λe w'=>e=ρ (xR (if x.n=1 then [116,114,117,101]else [102,97,108,115,101]))/\Below w.heap.size w w':=by
 unfold scV;obtain⟨k,n,s⟩:=x;have b:∀a c,Calls π 39 #[β a] c λe w'=>e=ρ (U ⟨(Lib.formatBool a).toArray⟩)/\w'=c:=strconv_FormatBool;by_cases d:n=1
 ·subst d
  go_enter func22,ntmps22
  go_wp2_with fail
  refine(b _ _).mono ?_;rintro e f ⟨rfl,rfl⟩
  go_wp2_with fail
  go_ret
  exact⟨rfl,(ζ _ _).alloc (η _) _⟩
 ·go_enter func22,ntmps22
  go_wp2_with fail
  refine(b _ _).mono ?_;rintro e f ⟨rfl,rfl⟩
  go_wp2_with fail
  go_ret
  exact⟨by rw[show (n==1)=false by simpa using d];rfl,(ζ _ _).alloc (η _) _⟩
theorem oP(x:Tp.Sc)(c:-9223372036854775808<=x.n)(b:x.n<=9223372036854775807)(w:World)(f:Glob w):Calls π 23 #[scV x] w λe w'=>e=ρ (xR (Tp.itoa x.n))/\Below w.heap.size w w':=by
 unfold scV;obtain⟨k,n,s⟩:=x;have a:=(ζ w.heap.size w).alloc (η _) (J #[V I k,V I n,xR s] 60);have d:=dP n c b _ (f.step a);generalize xR (Tp.itoa n)=j at d ⊢;generalize xR s=T at *;clear f c b
 go_enter func23,ntmps23
 go_wp2_with fail
 refine d.mono ?_;rintro e i ⟨rfl,g⟩
 go_wp2_with fail
 go_ret
 exact⟨rfl,a.trans (g.mono a.size)⟩
theorem pW(x:Tp.Sc)(d:x.s.length<=1000)(c:Ln.right x.s=true)(w:World)(f:Glob w):Calls π 24 #[scV x] w λe w'=>e=ρ (xR (Tp.quote x.s))/\Below w.heap.size w w':=by
 unfold scV;obtain⟨k,n,s⟩:=x;have a:=(ζ w.heap.size w).alloc (η _) (J #[V I k,V I n,xR s] 60);have b:=j3 ⟨s.toArray⟩ d c _ (f.step a);rw[show (U ⟨s.toArray⟩:Value)=xR s from rfl,show (U ⟨(Tp.quote (⟨s.toArray⟩:ByteArray).data.toList).toArray⟩:Value)=xR (Tp.quote s)from rfl]at b;generalize xR (Tp.quote s)=j at b ⊢;generalize xR s=T at *;clear f d c
 go_enter func24,ntmps24
 go_wp2_with fail
 refine b.mono ?_;rintro e i ⟨rfl,g⟩
 go_wp2_with fail
 go_ret
 exact⟨rfl,a.trans (g.mono a.size)⟩
def byV(a:UInt8):Value:=V .u8 (a.toNat:Int)
theorem pj(b:UInt8)(c:List UInt8)(s:Option Addr)(g o n cap:Nat)(r:c.length=n)(G:n<=100000)(w:World)(p:RA w s g o (c.map byV)):
 Calls π 259 #[Y s n cap,byV b] w λe w'=>(∃k:Int,e=ρ (V I k)/\(decide (0<=k)=c.contains b))/\w'=w:=by
 unfold byV at *;generalize hR:c.contains b=R;obtain⟨y,z,q⟩:=zx3 hR p r;clear hR p r
 go_enter func259,ntmps259
 go_wp2_with fail
 go_loopw [4,5,8] (λ_ _ a wr=>∃i:Nat,a=V I (i:Int)/\wr=w/\i<=n/\(c.drop i).contains b=R) (λ_ _ a _=>n - (Lib.intOf a).toNat)
 case atStart=>exact⟨0,rfl,rfl,z_ _,by rw[List.drop_zero];exact y.out⟩
 case round=>
  obtain⟨i,rfl,rfl,F,f⟩:=hrel;by_cases A:i < n
  ·have v:(i:Int) < (n:Int):=by omega
   obtain⟨d,m⟩:=fk c i (by rw[q.out];exact A);have j:=kw (λb:UInt8=>Value.int .u8 (b.toNat:Int)) c i d m;obtain⟨C,_,t⟩:=z.out (by intro e;rw[e]at j;simp at j);subst C;have E:=t i _ j;rw[aE c i d m,List.contains_cons]at f;have D:IntKind.i64.wrap ((i:Int)+1)=(i:Int)+1:=zU _ (by omega);clear m t j;by_cases x:(b.toNat:Int)=(d.toNat:Int)
   ·have l:b=d:=UInt8.toNat_inj.1 (by omega)
    obtain rfl:R=true:=by rw[<-f,l];simp
    go_wp2_with fail
    go_ret
    exact⟨⟨_,rfl,by simp⟩,rfl⟩
   ·have l:(b==d)=false:=by rw[beq_eq_false_iff_ne];intro e;exact x (by rw[e])
    rw[l,Bool.false_or]at f
    go_wp2_with fail
    go_roundw
    case rel=>exact⟨i+1,by simp,trivial,by omega,f⟩
    case measure=>simp[Lib.intOf];omega
  ·have v:¬(i:Int) < (n:Int):=by omega
   have u:R=false:=by
    rw[<-f,List.drop_eq_nil_of_le (by rw[q.out];omega)];rfl
   subst u
   go_wp2_with fail
   go_ret
   exact⟨⟨_,rfl,by decide⟩,rfl⟩
theorem jr(b:UInt8)(a:List UInt8)(c:Option Addr)(g o n cap:Nat)(j:a.length=n)(i:n<=100000)(w:World)(f:RA w c g o (a.map byV)):
 Calls π 232 #[Y c n cap,byV b] w λe w'=>e=ρ (β (a.contains b))/\w'=w:=by
 have l:=pj b a c g o n cap j i w f;unfold byV at *;generalize a.contains b=p at *
 go_enter func232,ntmps232
 go_wp2_with fail
 refine l.mono ?_;rintro e m ⟨⟨k,rfl,d⟩,rfl⟩
 go_wp2_with fail
 go_ret
 exact⟨by rw[<-d];rfl,rfl⟩
def yC(s:ByteArray)(i:Nat)(a:List UInt8):Bool:=match s.data.toList[i]? with|some c=>a.contains c|none=>false
def yb(w:World)(a:Nat)(s:ByteArray)(p d:Nat):Prop:=w.heap[a]? =W (J #[U s,V I (p:Int),V I (d:Int)] 300 (0,0))
theorem cO(r:Nat)(s:ByteArray)(p d i:Nat)(l:Int)(j:(p:Int)+l=(i:Int))(A:i<=1000000)(F:s.size<=1000000)(a:List UInt8)(g n:Nat)(y:a.length=n)(G:n<=100)(w:World)(c:yb w r s p d)(f:RA w (W ⟨g,0,O⟩) g 0 (a.map byV)):
 Calls π 196 #[Z (W ⟨r,0,O⟩),V I l,Y (W ⟨g,0,O⟩) n n] w λe w'=>e=ρ (β (yC s i a))/\w'=w:=by
 have D:=zF c 0 rfl;have E:=zF c 1 rfl;have v:IntKind.i64.wrap ((p:Int)+l)=(i:Int):=by rw[j];exact zU _ (by omega)
 have m:=λk=>jr k a _ g 0 n n y (by omega) w f;unfold yC byV at *;by_cases b:i < s.size
 ·have q:(i:Int) < (s.size:Int):=by omega
  have t:s.data.toList[i]? =W (s[i]'b):=by
   rw[zE (by rw[ap];exact b)];rfl
  rw[t];simp only;have o:=m (s[i]'b);have u:=λx=>run_index_string (P:=π) x 9 s I (i:Int) underlying9;simp only[show (0:Int)<=(i:Int)/\(i:Int) < (s.size:Int)from ⟨by omega,q⟩,dif_pos,Int.toNat_natCast,and_self]at u;have z:=zD o;clear m t c f o j;generalize s[i]'b=k at *;generalize a.contains k=C at *
  go_enter func196,ntmps196
  go_wp2_with fail
  refine z.out.mono ?_;rintro e v ⟨rfl,rfl⟩
  go_wp2_with fail
  go_ret
  exact⟨rfl,rfl⟩
 ·have q:¬(i:Int) < (s.size:Int):=by omega
  rw[List.getElem?_eq_none (by rw[ap];omega)];clear m c f j
  go_enter func196,ntmps196
  go_wp2_with fail
  go_ret
  exact⟨rfl,rfl⟩
theorem wP(s:ByteArray)(i:Nat):Tp.isB (s.data.toList.drop i)=(decide (s.size<=i)||yC s i [32]):=by
 unfold yC;by_cases b:i < s.size
 ·have a:i < s.data.toList.length:=by rw[ap];exact b
  rw[zE a,zW a];rw[Bool.eq_iff_iff];simp[Tp.isB,show ¬s.size<=i by omega,<-UInt8.toNat_inj]
 ·rw[List.drop_eq_nil_of_le (by rw[ap];omega)]
  simp[Tp.isB,show s.size<=i by omega]
theorem uJ(x a:Int)(b:World):(binOp .geq 3 (V I x) (V I a)).run π b=.ok (β (decide (a<=x))) b:=by
 simp[go_sem]
theorem eC(w:World)(a:List UInt8)(T:TypeId):RA (w.alloc (J (a.map byV).toArray T)) (W ⟨w.heap.size,0,O⟩) w.heap.size 0 (a.map byV):=
 λ_=>⟨rfl,by simp,λi v b=>by rw[Nat.zero_add,ae (af _ _) i];simpa using b⟩
theorem dk(b:Nat)(s:ByteArray)(p d i:Nat)(f:Int)(c:(p:Int)+f=(i:Int))(n:i<=1000000)(u:s.size<=1000000)(w:World)(a:yb w b s p d):
 Calls π 287 #[Z (W ⟨b,0,O⟩),V I f] w λe w'=>e=ρ (β (Tp.isB (s.data.toList.drop i)))/\Below w.heap.size w w':=by
 have q:=zF a 0 rfl;have t:=zF a 1 rfl;have v:IntKind.i64.wrap ((p:Int)+f)=(i:Int):=by rw[c];exact zU _ (by omega)
 rw[wP];by_cases l:s.size<=i
 ·have o:¬(i:Int) < (s.size:Int):=by omega
  have j:(s.size:Int)<=(i:Int):=by omega
  rw[decide_eq_true l,Bool.true_or];have g:=λk=>uJ (i:Int) (s.size:Int) k;rw[decide_eq_true j]at g;clear a c
  go_enter func287,ntmps287
  go_wp2_with fail
  go_quiet (fail)
  go_wp2_with fail
  go_ret
  exact⟨rfl,Far.to_below ((ξ xO w).drewN _) (η _) (λ_ _ e=>e)⟩
 ·have o:(i:Int) < (s.size:Int):=by omega
  have j:¬(s.size:Int)<=(i:Int):=by omega
  rw[decide_eq_false l,Bool.false_or];have g:=λk=>uJ (i:Int) (s.size:Int) k;rw[decide_eq_false j]at g;have z:=lt_of_heap a;have m:=cO b s p d i f c n u [32] w.heap.size 1 rfl (by omega) (w.alloc (J #[V .u8 32] 5)).drew (aa _ a) (eC w [32] 5);generalize yC s i [32]=y at *;have r:=zD m;clear m a c
  go_enter func287,ntmps287
  go_wp2_with fail
  go_region_held3 (λw'=>w'.cell? ⟨b,0,O⟩=W (U s)/\w'.cell? ⟨b,1,O⟩=W (V I (p:Int))) (first|(with_reducible exact⟨q,t⟩)|go_keep) (first|(go_at_call 196;refine r.out.mono ?_;rintro e x ⟨rfl,rfl⟩))
  go_wp2_with fail
  go_ret
  exact⟨rfl,((ζ _ _).alloc (η _) _).drew⟩
theorem dI(w:World)(a:List UInt8)(T:TypeId)(g:Nat)(b:g=w.heap.size):RA (w.alloc (J (a.map byV).toArray T)) (W ⟨g,0,O⟩) g 0 (a.map byV):=by subst b;exact eC w a T
theorem qB(w:World)(a:List UInt8)(T:TypeId)(c:Nat × Nat):RA (w.alloc (J (a.map byV).toArray T c)) (W ⟨w.heap.size,0,O⟩) w.heap.size 0 (a.map byV):=
 λ_=>⟨rfl,by simp,λi v b=>by rw[Nat.zero_add,ae (af _ _) i];simpa using b⟩
def y7(s:ByteArray)(p:Nat):Bool:=yC s p [35]&&(decide (p=0)||yC s (p - 1) [32])
theorem im(b:Nat)(s:ByteArray)(p d:Nat)(m:p<=1000000)(j:s.size<=1000000)(w:World)(a:yb w b s p d):
 Calls π 197 #[Z (W ⟨b,0,O⟩)] w λe w'=>e=ρ (β (y7 s p))/\Below w.heap.size w w':=by
 have v:=lt_of_heap a;have c:=cO b s p d p 0 (by omega) m j [35] w.heap.size 1 rfl (by omega) (w.alloc (J #[V .u8 35] 5)) (aa _ a) (eC w [35] 5);have r:∀o:Obj,(w.alloc o).cell? ⟨b,1,O⟩=W (V I (p:Int)):=λo=>ae (aa o a) 1;unfold y7;generalize hA:yC s p [35]=k at c ⊢;clear hA;cases k with
 |false=>
  clear a
  go_enter func197,ntmps197
  go_wp2_with fail
  refine c.mono ?_;rintro e f ⟨rfl,rfl⟩
  go_wp2_with fail
  go_ret
  exact⟨rfl,(ζ _ _).alloc (η _) _⟩
 |true=>
  by_cases i:p=0
  ·subst i
   clear a
   go_enter func197,ntmps197
   go_wp2_with fail
   refine c.mono ?_;rintro e f ⟨rfl,rfl⟩
   go_wp2_with fail
   go_ret
   exact⟨rfl,(ζ _ _).alloc (η _) _⟩
  ·have g:=cO b s p d (p - 1) (-1) (by omega) (by omega) j [32] (w.heap.size+1) 1 rfl (by omega) ((w.alloc (J #[V .u8 35] 5)).alloc (J #[V .u8 32] 5)) (aa _ (aa _ a)) (dI (w.alloc (J #[V .u8 35] 5)) [32] 5 _ (by simp))
   have t:((p:Int)==0)=false:=by rw[beq_eq_false_iff_ne];omega
   have u:¬(p:Int)=0:=by omega
   rw[decide_eq_false i,Bool.false_or,Bool.true_and];generalize yC s (p - 1) [32]=q at *;have l:Below w.heap.size w ((w.alloc (J #[V .u8 35] 5)).alloc (J #[V .u8 32] 5)):=((ζ _ _).alloc (η _) _).alloc (by simp) _;have n:=zD g;clear a g
   go_enter func197,ntmps197
   go_wp2_with fail
   refine c.mono ?_;rintro e f ⟨rfl,rfl⟩
   go_wp2_with fail
   refine n.out.mono ?_;rintro e f ⟨rfl,rfl⟩
   go_wp2_with fail
   go_ret
   exact⟨rfl,l⟩
theorem yb.below{w w':World}{a:Nat}{s:ByteArray}{p d B:Nat}(b:yb w a s p d)(e:Below B w w')(c:a < B):yb w' a s p d:=(e.block a c).trans b
theorem sE(b:Nat)(s:ByteArray)(i:Nat):Tp.closed b (s.data.toList.drop i)=(Tp.isB (s.data.toList.drop i)||(decide (0 < b)&&yC s i [44,91,93,123,125])):=by
 unfold Tp.closed yC;congr 2
 by_cases c:i < s.size
 ·have a:i < s.data.toList.length:=by rw[ap];exact c
  rw[zE a,zW a];simp only[Tp.flowC];rw[Bool.eq_iff_iff];simp[<-UInt8.toNat_inj,or_assoc]
 ·rw[List.drop_eq_nil_of_le (by rw[ap];omega),List.getElem?_eq_none (by rw[ap];omega)]
theorem bT(g:Nat)(s:ByteArray)(p d i:Nat)(k:Int)(q:(p:Int)+k=(i:Int))(m:i<=1000000)(o:s.size<=1000000)(w:World)(j:yb w g s p d):
 Calls π 285 #[Z (W ⟨g,0,O⟩),V I k] w λe w'=>e=ρ (β (Tp.closed d (s.data.toList.drop i)))/\Below w.heap.size w w':=by
 have f:=dk g s p d i k q m o w j;have r:=lt_of_heap j;rw[sE];generalize hA:Tp.isB (s.data.toList.drop i)=u at f ⊢;clear hA;have n:=zD j;clear j;cases u with
 |true=>
  go_enter func285,ntmps285
  go_wp2_with fail
  refine f.mono ?_;rintro e b ⟨rfl,a⟩
  go_wp2_with fail
  go_ret
  exact⟨rfl,a⟩
 |false=>
  rw[Bool.false_or];by_cases t:0 < d
  ·have C:(0:Int) < (d:Int):=by omega
   rw[decide_eq_true t,Bool.true_and];generalize hR:yC s i [44,91,93,123,125]=R;have y:=zD hR;clear hR
   go_enter func285,ntmps285
   go_wp2_with fail
   refine f.mono ?_;rintro e b ⟨rfl,a⟩;have c:=n.out.below a r;have v:=zF c 2 rfl;have l:=cO g s p d i k q m o [44,91,93,123,125] b.heap.size 5 rfl (by omega) (b.alloc (J #[V .u8 44,V .u8 91,V .u8 93,V .u8 123,V .u8 125] 5 (5,6))) (aa _ c) (qB b [44,91,93,123,125] 5 (5,6));have A:=Lib.run_convert_bytes_const (P:=π) b 36 5 #[V .u8 44,V .u8 91,V .u8 93,V .u8 123,V .u8 125] 5 5 underlying36 underlying5;rw[show (#[V .u8 44,V .u8 91,V .u8 93,V .u8 123,V .u8 125]:Array Value).size=5 from rfl]at A;rw[y.out]at l;have z:=zD l;have x:=a.alloc a.size (J #[V .u8 44,V .u8 91,V .u8 93,V .u8 123,V .u8 125] 5 (5,6));clear c l
   go_wp2_with fail
   refine z.out.mono ?_;rintro e b ⟨rfl,rfl⟩
   go_wp2_with fail
   go_ret
   exact⟨rfl,x⟩
  ·obtain rfl:d=0:=by omega
   go_enter func285,ntmps285
   go_wp2_with fail
   refine f.mono ?_;rintro e b ⟨rfl,a⟩;have c:=n.out.below a r;have v:=zF c 2 rfl;clear c
   go_wp2_with fail
   go_ret
   exact⟨rfl,a⟩
def tkV(t:Tp.Tk):Value:=γ #[V I t.k,xR t.s,V I (t.a:Int)]
def yh(w:World)(a:Nat)(s:ByteArray)(p d:Nat)(t:Tp.Tk)(e:Ending)(w':World):Prop:=e=ρ (.tuple #[tkV t,.nilIface])/\yb w' a s p d/\Far (·=a) w w'
theorem uT:(prog.info? 305).map (·.size)=W 3:=by kernel_rfl
theorem nc{e:Func}{a f:Tmp}(i:e.results=#[.cell a 305,.tmp f])(c:World)(q:Nat)(x d z:Value)(b:Array Value)(k:c.heap[q]? =W (J #[x,d,z] 305 (0,0)))(l:b.getD a undef=Z (W ⟨q,0,O⟩)):
 (results e b).run π c=.ok (.tuple #[γ #[x,d,z],b.getD f undef]) c:=by
 have g:b[a]?.getD undef=Z (W ⟨q,0,O⟩):=by simpa using l
 have j:=run_loadVar_row (P:=π) c q 305 305 _ (0,0) _ k underlying305 rfl uT;simp[results,i,asAddr,g,j,Sem.run_bind,Result.andThen]
theorem cB(k:Int)(a:Nat)(s:ByteArray)(p d:Nat)(n:p<=1000000)(w:World)(c:yb w a s p d):
 Calls π 288 #[Z (W ⟨a,0,O⟩),V I k] w (yh w a s (p+1) d ⟨k,[],p⟩):=by
 have i:=lt_of_heap c;have m:∀o b:Obj,((w.alloc o).alloc b).cell? ⟨a,1,O⟩=W (V I (p:Int)):=λo b=>ae (aa b (aa o c)) 1;have l:∀o b:Obj,((w.alloc o).alloc b).frozen? ⟨a,1,O⟩=false:=λo b=>ag (aa b (aa o c)) 1;have r:∀o:Obj,(w.alloc o).cell? ⟨a,1,O⟩=W (V I (p:Int)):=λo=>ae (aa o c) 1;have g:IntKind.i64.wrap ((p:Int)+1)=(p:Int)+1:=zU _ (by omega);have j:a≠w.heap.size:=by omega
 have q:a≠w.heap.size+1:=by omega
 have e:=zD c;clear c
 go_enter func288,ntmps288
 go_wp2_with fail
 have f:(w.setCell ⟨a,1,O⟩ (V I ((p:Int)+1))).heap.size=w.heap.size:=by simp[World.setCell]
 exact bodyPost_ret (nc results288 _ w.heap.size _ _ _ _ (aa _ (ah _ _ _ f.symm)) rfl) rfl ⟨rfl,aa _ (aa _ (ai e.out 1 _)),(((ξ (·=a) w).setCell (p:=⟨a,1,O⟩) (λ_=>rfl) _).alloc _).alloc _⟩
section
theorem ry(x a:ByteArray)(w:World):(Instr.index 285 (γ #[U x,U a]) (V I 0)).run π w=.ok (U x) w:=by kernel_rfl
theorem rx(x a:ByteArray)(w:World):(Instr.index 285 (γ #[U x,U a]) (V I 1)).run π w=.ok (U a) w:=by kernel_rfl
attribute [local go_sem] ry rx
theorem vu(s:ByteArray)(w:World)(t1:ByteArray)(c:∀w,Calls π 141 #[U s,U ⟨#[45,45,45]⟩] w λe w'=>e=ρ (.tuple #[U t1,β false])/\w'=w)(t2:ByteArray)(b:∀w,Calls π 141 #[U s,U ⟨#[46,46,46]⟩] w λe w'=>e=ρ (.tuple #[U t2,β false])/\w'=w):Calls π 102 #[γ #[U s]] w λe w'=>e=ρ (β false)/\Below w.heap.size w w':=by
 go_enter func102,ntmps102
 go_wp2_with fail
 refine wp_loop_rounds 3 ?_;rw[rounds_succ]
 go_wp2_with fail
 refine(c _).mono ?_;rintro e a ⟨rfl,rfl⟩
 go_wp2_with fail
 rw[rounds_succ]
 go_wp2_with fail
 refine(b _).mono ?_;rintro e a ⟨rfl,rfl⟩
 go_wp2_with fail
 rw[rounds_succ]
 go_wp2_with fail
 go_ret
 exact⟨rfl,(ζ _ _).alloc (η _) _⟩
theorem vw(s:ByteArray)(w:World)(t1:ByteArray)(c:∀w,Calls π 141 #[U s,U ⟨#[45,45,45]⟩] w λe w'=>e=ρ (.tuple #[U t1,β false])/\w'=w)(t2:ByteArray)(b:∀w,Calls π 141 #[U s,U ⟨#[46,46,46]⟩] w λe w'=>e=ρ (.tuple #[U t2,β true])/\w'=w)(d:t2.toList.isEmpty=true):Calls π 102 #[γ #[U s]] w λe w'=>e=ρ (β true)/\Below w.heap.size w w':=by
 go_enter func102,ntmps102
 go_wp2_with fail
 refine wp_loop_rounds 3 ?_;rw[rounds_succ]
 go_wp2_with fail
 refine(c _).mono ?_;rintro e a ⟨rfl,rfl⟩
 go_wp2_with fail
 rw[rounds_succ]
 go_wp2_with fail
 refine(b _).mono ?_;rintro e a ⟨rfl,rfl⟩
 go_wp2_with fail
 go_ret
 exact⟨rfl,(ζ _ _).alloc (η _) _⟩
theorem vt(s:ByteArray)(w:World)(t1:ByteArray)(c:∀w,Calls π 141 #[U s,U ⟨#[45,45,45]⟩] w λe w'=>e=ρ (.tuple #[U t1,β false])/\w'=w)(t2:ByteArray)(b:∀w,Calls π 141 #[U s,U ⟨#[46,46,46]⟩] w λe w'=>e=ρ (.tuple #[U t2,β true])/\w'=w)(g:t2.toList.isEmpty=false)(d:0 < t2.size)(f:(((t2[0]'d).toNat:Int)==32)=false):Calls π 102 #[γ #[U s]] w λe w'=>e=ρ (β false)/\Below w.heap.size w w':=by
 go_enter func102,ntmps102
 go_wp2_with fail
 refine wp_loop_rounds 3 ?_;rw[rounds_succ]
 go_wp2_with fail
 refine(c _).mono ?_;rintro e a ⟨rfl,rfl⟩
 go_wp2_with fail
 rw[rounds_succ]
 go_wp2_with fail
 refine(b _).mono ?_;rintro e a ⟨rfl,rfl⟩
 go_wp2_with fail
 rw[rounds_succ]
 go_wp2_with fail
 go_ret
 exact⟨rfl,(ζ _ _).alloc (η _) _⟩
theorem vx(s:ByteArray)(w:World)(t1:ByteArray)(c:∀w,Calls π 141 #[U s,U ⟨#[45,45,45]⟩] w λe w'=>e=ρ (.tuple #[U t1,β false])/\w'=w)(t2:ByteArray)(b:∀w,Calls π 141 #[U s,U ⟨#[46,46,46]⟩] w λe w'=>e=ρ (.tuple #[U t2,β true])/\w'=w)(g:t2.toList.isEmpty=false)(d:0 < t2.size)(f:(((t2[0]'d).toNat:Int)==32)=true):Calls π 102 #[γ #[U s]] w λe w'=>e=ρ (β true)/\Below w.heap.size w w':=by
 go_enter func102,ntmps102
 go_wp2_with fail
 refine wp_loop_rounds 3 ?_;rw[rounds_succ]
 go_wp2_with fail
 refine(c _).mono ?_;rintro e a ⟨rfl,rfl⟩
 go_wp2_with fail
 rw[rounds_succ]
 go_wp2_with fail
 refine(b _).mono ?_;rintro e a ⟨rfl,rfl⟩
 go_wp2_with fail
 go_ret
 exact⟨rfl,(ζ _ _).alloc (η _) _⟩
theorem wE(s:ByteArray)(w:World)(t1:ByteArray)(a:∀w,Calls π 141 #[U s,U ⟨#[45,45,45]⟩] w λe w'=>e=ρ (.tuple #[U t1,β true])/\w'=w)(c:t1.toList.isEmpty=true):Calls π 102 #[γ #[U s]] w λe w'=>e=ρ (β true)/\Below w.heap.size w w':=by
 go_enter func102,ntmps102
 go_wp2_with fail
 refine wp_loop_rounds 3 ?_;rw[rounds_succ]
 go_wp2_with fail
 refine(a _).mono ?_;rintro e b ⟨rfl,rfl⟩
 go_wp2_with fail
 go_ret
 exact⟨rfl,(ζ _ _).alloc (η _) _⟩
theorem vp(s:ByteArray)(w:World)(t1:ByteArray)(d:∀w,Calls π 141 #[U s,U ⟨#[45,45,45]⟩] w λe w'=>e=ρ (.tuple #[U t1,β true])/\w'=w)(g:t1.toList.isEmpty=false)(b:0 < t1.size)(f:(((t1[0]'b).toNat:Int)==32)=false)(t2:ByteArray)(c:∀w,Calls π 141 #[U s,U ⟨#[46,46,46]⟩] w λe w'=>e=ρ (.tuple #[U t2,β false])/\w'=w):Calls π 102 #[γ #[U s]] w λe w'=>e=ρ (β false)/\Below w.heap.size w w':=by
 go_enter func102,ntmps102
 go_wp2_with fail
 refine wp_loop_rounds 3 ?_;rw[rounds_succ]
 go_wp2_with fail
 refine(d _).mono ?_;rintro e a ⟨rfl,rfl⟩
 go_wp2_with fail
 rw[rounds_succ]
 go_wp2_with fail
 refine(c _).mono ?_;rintro e a ⟨rfl,rfl⟩
 go_wp2_with fail
 rw[rounds_succ]
 go_wp2_with fail
 go_ret
 exact⟨rfl,(ζ _ _).alloc (η _) _⟩
theorem vq(s:ByteArray)(w:World)(t1:ByteArray)(d:∀w,Calls π 141 #[U s,U ⟨#[45,45,45]⟩] w λe w'=>e=ρ (.tuple #[U t1,β true])/\w'=w)(i:t1.toList.isEmpty=false)(b:0 < t1.size)(g:(((t1[0]'b).toNat:Int)==32)=false)(t2:ByteArray)(c:∀w,Calls π 141 #[U s,U ⟨#[46,46,46]⟩] w λe w'=>e=ρ (.tuple #[U t2,β true])/\w'=w)(f:t2.toList.isEmpty=true):Calls π 102 #[γ #[U s]] w λe w'=>e=ρ (β true)/\Below w.heap.size w w':=by
 go_enter func102,ntmps102
 go_wp2_with fail
 refine wp_loop_rounds 3 ?_;rw[rounds_succ]
 go_wp2_with fail
 refine(d _).mono ?_;rintro e a ⟨rfl,rfl⟩
 go_wp2_with fail
 rw[rounds_succ]
 go_wp2_with fail
 refine(c _).mono ?_;rintro e a ⟨rfl,rfl⟩
 go_wp2_with fail
 go_ret
 exact⟨rfl,(ζ _ _).alloc (η _) _⟩
theorem vo(s:ByteArray)(w:World)(t1:ByteArray)(d:∀w,Calls π 141 #[U s,U ⟨#[45,45,45]⟩] w λe w'=>e=ρ (.tuple #[U t1,β true])/\w'=w)(k:t1.toList.isEmpty=false)(b:0 < t1.size)(j:(((t1[0]'b).toNat:Int)==32)=false)(t2:ByteArray)(c:∀w,Calls π 141 #[U s,U ⟨#[46,46,46]⟩] w λe w'=>e=ρ (.tuple #[U t2,β true])/\w'=w)(i:t2.toList.isEmpty=false)(f:0 < t2.size)(g:(((t2[0]'f).toNat:Int)==32)=false):Calls π 102 #[γ #[U s]] w λe w'=>e=ρ (β false)/\Below w.heap.size w w':=by
 go_enter func102,ntmps102
 go_wp2_with fail
 refine wp_loop_rounds 3 ?_;rw[rounds_succ]
 go_wp2_with fail
 refine(d _).mono ?_;rintro e a ⟨rfl,rfl⟩
 go_wp2_with fail
 rw[rounds_succ]
 go_wp2_with fail
 refine(c _).mono ?_;rintro e a ⟨rfl,rfl⟩
 go_wp2_with fail
 rw[rounds_succ]
 go_wp2_with fail
 go_ret
 exact⟨rfl,(ζ _ _).alloc (η _) _⟩
theorem vr(s:ByteArray)(w:World)(t1:ByteArray)(d:∀w,Calls π 141 #[U s,U ⟨#[45,45,45]⟩] w λe w'=>e=ρ (.tuple #[U t1,β true])/\w'=w)(k:t1.toList.isEmpty=false)(b:0 < t1.size)(j:(((t1[0]'b).toNat:Int)==32)=false)(t2:ByteArray)(c:∀w,Calls π 141 #[U s,U ⟨#[46,46,46]⟩] w λe w'=>e=ρ (.tuple #[U t2,β true])/\w'=w)(i:t2.toList.isEmpty=false)(f:0 < t2.size)(g:(((t2[0]'f).toNat:Int)==32)=true):Calls π 102 #[γ #[U s]] w λe w'=>e=ρ (β true)/\Below w.heap.size w w':=by
 go_enter func102,ntmps102
 go_wp2_with fail
 refine wp_loop_rounds 3 ?_;rw[rounds_succ]
 go_wp2_with fail
 refine(d _).mono ?_;rintro e a ⟨rfl,rfl⟩
 go_wp2_with fail
 rw[rounds_succ]
 go_wp2_with fail
 refine(c _).mono ?_;rintro e a ⟨rfl,rfl⟩
 go_wp2_with fail
 go_ret
 exact⟨rfl,(ζ _ _).alloc (η _) _⟩
theorem wF(s:ByteArray)(w:World)(t1:ByteArray)(b:∀w,Calls π 141 #[U s,U ⟨#[45,45,45]⟩] w λe w'=>e=ρ (.tuple #[U t1,β true])/\w'=w)(f:t1.toList.isEmpty=false)(a:0 < t1.size)(d:(((t1[0]'a).toNat:Int)==32)=true):Calls π 102 #[γ #[U s]] w λe w'=>e=ρ (β true)/\Below w.heap.size w w':=by
 go_enter func102,ntmps102
 go_wp2_with fail
 refine wp_loop_rounds 3 ?_;rw[rounds_succ]
 go_wp2_with fail
 refine(b _).mono ?_;rintro e c ⟨rfl,rfl⟩
 go_wp2_with fail
 go_ret
 exact⟨rfl,(ζ _ _).alloc (η _) _⟩
theorem gh(t:ByteArray)(p:Bool):p=false\/(p=true/\t.toList.isEmpty=true)\/(p=true/\t.toList.isEmpty=false/\∃a:0 < t.size,(((t[0]'a).toNat:Int)==32)=true)\/(p=true/\t.toList.isEmpty=false/\∃a:0 < t.size,(((t[0]'a).toNat:Int)==32)=false):=by
 cases p with
 |false=>exact .inl rfl
 |true=>
  by_cases c:0 < t.size
  ·have d:t.toList.isEmpty=false:=by
    rw[ByteArray.toList_eq];cases b:t.data.toList with
    |nil=>have:=ap t;rw[b]at this;simp at this;omega
    |cons x u=>rfl
   by_cases e:(((t[0]'c).toNat:Int)==32)=true
   ·exact .inr (.inr (.inl ⟨rfl,d,c,e⟩))
   ·exact .inr (.inr (.inr ⟨rfl,d,c,by simpa using e⟩))
  ·refine .inr (.inl ⟨rfl,?_⟩)
   rw[ByteArray.toList_eq];have:=ap t;cases b:t.data.toList with
   |nil=>rfl
   |cons x u=>rw[b]at this;simp at this;omega
theorem uD(s t:ByteArray)(p:Bool)(m:Ln.B)(n:t.data.toList=Lib.trimPrefix s.data.toList m)(l:Lib.hasPrefix s.data.toList m=p):
 (p=false->Ln.oneB m s.data.toList=false)/\(p=true->t.toList.isEmpty=true->Ln.oneB m s.data.toList=true)/\
 (∀a:0 < t.size,p=true->(((t[0]'a).toNat:Int)==32)=true->Ln.oneB m s.data.toList=true)/\
 (∀a:0 < t.size,p=true->(((t[0]'a).toNat:Int)==32)=false->Ln.oneB m s.data.toList=false):=by
 have k:∀a:0 < t.size,t.data.toList≠[]/\t.data.toList.head? =W (t[0]'a):=by
  intro a;have d:0 < t.data.toList.length:=by rw[ap];exact a
  refine⟨by intro e;rw[e]at d;simp at d,?_⟩;rw[List.head?_eq_getElem?,zE d];rfl
 unfold Ln.oneB;rw[l,<-n];refine⟨λa=>by rw[a,Bool.false_and],λa i=>?_,λb a c=>?_,λb a c=>?_⟩
 ·rw[ByteArray.toList_eq]at i
  have:t.data.toList=[]:=by simpa using i
  rw[a,this];rfl
 ·obtain⟨j,f⟩:=k b
  have g:(t[0]'b)=32:=by
   have:((t[0]'b).toNat:Int)=32:=by simpa using c
   exact UInt8.toNat_inj.1 (by show (t[0]'b).toNat=32;omega)
  rw[a,f,g];simp
 ·obtain⟨j,f⟩:=k b
  have g:(t[0]'b)≠32:=by
   intro e;rw[e]at c;exact absurd c (by decide)
  rw[a,f];simp[j,g]
theorem tQ(s:ByteArray)(w:World):Calls π 102 #[γ #[U s]] w λe w'=>e=ρ (β (Ln.markB s.data.toList))/\Below w.heap.size w w':=by
 have d:=λw=>strings_CutPrefix s ⟨#[45,45,45]⟩ w;have f:=λw=>strings_CutPrefix s ⟨#[46,46,46]⟩ w;obtain⟨t1,r⟩:∃t:ByteArray,(⟨(Lib.trimPrefix s.data.toList [45,45,45]).toArray⟩:ByteArray)=t:=⟨_,rfl⟩;obtain⟨t2,v⟩:∃t:ByteArray,(⟨(Lib.trimPrefix s.data.toList [46,46,46]).toArray⟩:ByteArray)=t:=⟨_,rfl⟩;obtain⟨q,l⟩:∃p,Lib.hasPrefix s.data.toList [45,45,45]=p:=⟨_,rfl⟩;obtain⟨k,o⟩:∃p,Lib.hasPrefix s.data.toList [46,46,46]=p:=⟨_,rfl⟩;simp only[r,l]at d;simp only[v,o]at f;obtain⟨A,C,y,z⟩:=uD s t1 q [45,45,45] (by rw[<-r]) l;obtain⟨m,u,n,x⟩:=uD s t2 k [46,46,46] (by rw[<-v]) o;rw[Ln.tP];rcases gh t1 q with rfl|⟨rfl,g⟩|⟨rfl,g,i,j⟩|⟨rfl,g,i,j⟩
 ·rw[A rfl,Bool.false_or]
  rcases gh t2 k with rfl|⟨rfl,a⟩|⟨rfl,a,c,b⟩|⟨rfl,a,c,b⟩
  ·rw[m rfl]
   exact vu s w t1 d t2 f
  ·rw[u rfl a]
   exact vw s w t1 d t2 f a
  ·rw[n c rfl b]
   exact vx s w t1 d t2 f a c b
  ·rw[x c rfl b]
   exact vt s w t1 d t2 f a c b
 ·rw[C rfl g,Bool.true_or]
  exact wE s w t1 d g
 ·rw[y i rfl j,Bool.true_or]
  exact wF s w t1 d g i j
 ·rw[z i rfl j,Bool.false_or]
  rcases gh t2 k with rfl|⟨rfl,a⟩|⟨rfl,a,c,b⟩|⟨rfl,a,c,b⟩
  ·rw[m rfl]
   exact vp s w t1 d g i j t2 f
  ·rw[u rfl a]
   exact vq s w t1 d g i j t2 f a
  ·rw[n c rfl b]
   exact vr s w t1 d g i j t2 f a c b
  ·rw[x c rfl b]
   exact vo s w t1 d g i j t2 f a c b
end
section
attribute [local go_sem ↓] Go.wp_at_zero Go.wp_at_succ
theorem nk(d:World)(a:Nat)(T:TypeId)(i g e b c f:Value)(j:d.heap[a]? =W (J #[i,g,e] T (0,0))):
 (((d.setCell ⟨a,0,O⟩ b).setCell ⟨a,1,O⟩ c).setCell ⟨a,2,O⟩ f).heap[a]? =W (J #[b,c,f] T (0,0)):=by
 have l:(d.setCell ⟨a,0,O⟩ b).heap[a]? =W (J #[b,g,e] T (0,0)):=ai j 0 b;have k:((d.setCell ⟨a,0,O⟩ b).setCell ⟨a,1,O⟩ c).heap[a]? =W (J #[b,c,e] T (0,0)):=ai l 1 c;exact ai k 2 f
theorem wt:(prog.info? 140).map (·.size)=W 3:=by kernel_rfl
theorem fQ(b:World)(p:Nat)(n i:Int)(t:ByteArray)(c:Bool)(a:Array Value)(e:b.heap[p]? =W (J #[V I n,V I i,U t] 140 (0,0)))(g:a.getD 2 undef=Z (W ⟨p,0,O⟩))(j:a.getD 3 undef=β c):
 (results f72 a).run π b.drew=.ok (.tuple #[γ #[V I n,V I i,U t],β c]) b.drew:=by
 have d:a[2]?.getD undef=Z (W ⟨p,0,O⟩):=by simpa using g
 have k:a[3]?.getD undef=β c:=by simpa using j
 have f:=run_loadVar_row (P:=π) b.drew p 140 140 _ (0,0) _ e underlying140 rfl wt;simp[results,results72,asAddr,d,k,f,Sem.run_bind,Result.andThen]
theorem qi(t s:ByteArray)(k:t.data.toList=Ln.lead s.data.toList):
 (t.toList.isEmpty=true/\Ln.says s.data.toList=false)\/(t.toList.isEmpty=false/\∃d:0 < t.size,(((t[0]'d).toNat:Int)==35)=true/\Ln.says s.data.toList=false)\/
 (t.toList.isEmpty=false/\∃d:0 < t.size,(((t[0]'d).toNat:Int)==35)=false/\Ln.says s.data.toList=true):=by
 unfold Ln.says;rw[<-k];by_cases a:0 < t.size
 ·have f:0 < t.data.toList.length:=by rw[ap];exact a
  have b:t.data.toList≠[]:=by intro e;rw[e]at f;simp at f
  have j:t.data.toList.head? =W (t[0]'a):=by
   rw[List.head?_eq_getElem?,zE f];rfl
  have g:t.toList.isEmpty=false:=by
   rw[ByteArray.toList_eq]
   simpa using b
  rw[j];by_cases c:(t[0]'a)=35
  ·exact .inr (.inl ⟨g,a,by rw[c];rfl,by simp[c]⟩)
  ·refine .inr (.inr ⟨g,a,?_,by simp[b,c]⟩)
   have:¬((t[0]'a).toNat:Int)=35:=λe=>c (UInt8.toNat_inj.1 (by show (t[0]'a).toNat=35;omega))
   simpa using this
 ·have b:t.data.toList=[]:=by
   have:=ap t;cases i:t.data.toList with
   |nil=>rfl
   |cons x u=>rw[i]at this;simp at this;omega
  refine .inl ⟨by rw[ByteArray.toList_eq,b];rfl,by rw[b];rfl⟩
theorem tS(s:ByteArray)(ao:s.size<=1000000)(a:Int)(w:World):Calls π 72 #[γ #[U s,V I a]] w λe w'=>
 (∃n i t,e=ρ (.tuple #[γ #[V I n,V I i,U t],β (Ln.says s.data.toList)])/\(⟨n,i,t.data.toList⟩:Ln.Line)=Ln.lineOf a s.data.toList)/\Below w.heap.size w w':=by
 obtain⟨t1,q⟩:∃t:ByteArray,(⟨(Lib.trimLeftB s.data.toList 32).toArray⟩:ByteArray)=t:=⟨_,rfl⟩;obtain⟨t2,r⟩:∃t:ByteArray,(⟨(Lib.trimRightB t1.data.toList 32).toArray⟩:ByteArray)=t:=⟨_,rfl⟩;have E:=λw=>strings_TrimLeft_one s 32 (by decide) w;have m:t1.data.toList=Ln.lead s.data.toList:=by rw[<-q];rfl
 have ac:t1.size<=s.size:=by
  have C:=congrArg List.length m;rw[ap]at C;rw[C,<-ap];exact(List.dropWhile_suffix _).length_le
 have z:=λw=>strings_TrimRight_one t1 32 (by decide) w (by omega);have G:t2.data.toList=Ln.tail (Ln.lead s.data.toList):=by rw[<-r,m];rfl
 simp only[q]at E;simp only[r]at z;clear q r;generalize hsy:Ln.says s.data.toList=sy
 go_enter func72,ntmps72
 go_wp2_with fail
 refine(E _).mono ?_;rintro e R ⟨rfl,rfl⟩;have g:((w.alloc (Obj.cells #[Value.string s,Value.int IntKind.i64 a] 143)).alloc (Obj.cells #[Value.int IntKind.i64 0,Value.int IntKind.i64 0,Value.string { data:=#[] }] 140)).heap[w.heap.size]? =W (J #[U s,V I a] 143 (0,0)):=aa _ (af w _);have p:((w.alloc (Obj.cells #[Value.string s,Value.int IntKind.i64 a] 143)).alloc (Obj.cells #[Value.int IntKind.i64 0,Value.int IntKind.i64 0,Value.string { data:=#[] }] 140)).heap[w.heap.size+1]? =W (J #[Value.int IntKind.i64 0,Value.int IntKind.i64 0,Value.string { data:=#[] }] 140 (0,0)):=ah _ _ _ (by simp);have d:Below w.heap.size w ((w.alloc (Obj.cells #[Value.string s,Value.int IntKind.i64 a] 143)).alloc (Obj.cells #[Value.int IntKind.i64 0,Value.int IntKind.i64 0,Value.string { data:=#[] }] 140)):=((ζ _ _).alloc (η _) _).alloc (by simp) _
 go_upto_region 2 with (fail)
 generalize ((w.alloc (Obj.cells #[Value.string s,Value.int IntKind.i64 a] 143)).alloc (Obj.cells #[Value.int IntKind.i64 0,Value.int IntKind.i64 0,Value.string { data:=#[] }] 140))=b at g p d ⊢;have L:=zF g 0 rfl;have H:=zF g 1 rfl;have F:=lt_of_heap g;obtain⟨M,A,f⟩:=zx3 g p d;have an:IntKind.i64.wrap ((s.size:Int) - (t1.size:Int))=(s.size:Int) - (t1.size:Int):=zU _ (by omega);clear g p d
 go_cut [5]from 10 (λN wx=>N=Z (W ⟨b.heap.size,0,O⟩)/\wx=(b.alloc (Obj.cells #[Value.int IntKind.i64 a,Value.int IntKind.i64 (↑s.size - ↑t1.size),Value.string t2] 140)).drew)
 case first=>
  go_region_held3 (λw'=>w'.cell? ⟨w.heap.size,0,O⟩=W (U s)/\w'.cell? ⟨w.heap.size,1,O⟩=W (V I a)) (go_keep) (first|(go_at_call 104;refine(z _).mono ?_;rintro e ad ⟨rfl,rfl⟩))
  all_goals go_wp2_with fail
  all_goals go_meet
  all_goals exact⟨rfl,rfl⟩
 case rest=>
  obtain⟨rfl,rfl⟩:=hcut;have j:(b.alloc (Obj.cells #[Value.int IntKind.i64 a,Value.int IntKind.i64 (↑s.size - ↑t1.size),Value.string t2] 140)).drew.heap[b.heap.size]? =W (J #[Value.int IntKind.i64 a,Value.int IntKind.i64 (↑s.size - ↑t1.size),Value.string t2] 140 (0,0)):=af _ _;have c:(b.alloc (Obj.cells #[Value.int IntKind.i64 a,Value.int IntKind.i64 (↑s.size - ↑t1.size),Value.string t2] 140)).drew.heap[w.heap.size+1]? =W (J #[Value.int IntKind.i64 0,Value.int IntKind.i64 0,Value.string { data:=#[] }] 140 (0,0)):=aa (w:=b) _ A.out;have d:Below w.heap.size w (b.alloc (Obj.cells #[Value.int IntKind.i64 a,Value.int IntKind.i64 (↑s.size - ↑t1.size),Value.string t2] 140)).drew:=(f.out.alloc f.out.size _).drew;generalize (b.alloc (Obj.cells #[Value.int IntKind.i64 a,Value.int IntKind.i64 (↑s.size - ↑t1.size),Value.string t2] 140)).drew=v at j c d ⊢;generalize b.heap.size=al at j ⊢;clear M A f L H F;have a0:=zF j 0 rfl;have S:=zF j 1 rfl;have a2:=zF j 2 rfl;have ab:=zF c 0 rfl;have P:=zF c 1 rfl;have a1:=zF c 2 rfl;have av:=ag c 0;have X:=ag c 1;have T:=ag c 2;obtain⟨x,f⟩:=zx2 c d;clear c d;have y:(⟨a,↑s.size - ↑t1.size,t2.data.toList⟩:Ln.Line)=Ln.lineOf a s.data.toList:=by
   unfold Ln.lineOf;rw[G,<-m,ap,ap]
  have o:=zD y;clear y;rcases qi t1 s m with ⟨D,l⟩|⟨D,k,u,l⟩|⟨D,k,u,l⟩
  ·obtain rfl:sy=false:=hsy.symm.trans l
   go_upto_region 3 with (fail)
   go_region
   go_wp2_with fail
   exact bodyPost_ret (fQ _ _ _ _ _ _ _ (nk v _ _ _ _ _ _ _ _ x.out) rfl rfl) rfl ⟨⟨_,_,_,rfl,o.out⟩,(((f.out.setCell (Nat.le_succ _) _).setCell (Nat.le_succ _) _).setCell (Nat.le_succ _) _).drew⟩
  ·obtain rfl:sy=false:=hsy.symm.trans l
   go_upto_region 3 with (fail)
   go_region
   go_wp2_with fail
   exact bodyPost_ret (fQ _ _ _ _ _ _ _ (nk v _ _ _ _ _ _ _ _ x.out) rfl rfl) rfl ⟨⟨_,_,_,by rw[show (((t1[0]'k).toNat:Int) != 35)=false from by show (!((t1[0]'k).toNat:Int)==35)=false;rw[u];rfl],o.out⟩,(((f.out.setCell (Nat.le_succ _) _).setCell (Nat.le_succ _) _).setCell (Nat.le_succ _) _).drew⟩
  ·obtain rfl:sy=true:=hsy.symm.trans l
   go_upto_region 3 with (fail)
   go_region
   go_wp2_with fail
   exact bodyPost_ret (fQ _ _ _ _ _ _ _ (nk v _ _ _ _ _ _ _ _ x.out) rfl rfl) rfl ⟨⟨_,_,_,by rw[show (((t1[0]'k).toNat:Int) != 35)=true from by show (!((t1[0]'k).toNat:Int)==35)=true;rw[u];rfl],o.out⟩,(((f.out.setCell (Nat.le_succ _) _).setCell (Nat.le_succ _) _).setCell (Nat.le_succ _) _).drew⟩
end
theorem gG{P:Program}{w:World}{a:Addr}(s:Tp.B)(m:Mode):(store a (xR s) m).run P w=stored P w a (xR s) m:=run_store P w a _ m rfl
attribute [go_sem] gG
theorem aF{c:Func}(k:c.results=#[.cell 2 305,.tmp 3])(w a:World)(b:Nat)(s:ByteArray)(p d:Nat)(t:Tp.Tk)(tmps:Array Value)
(g:a.heap[w.heap.size]? =W (J #[V I 0,U ⟨#[]⟩,V I 0] 305 (0,0)))(l:yb a b s p d)(j:Far (·=b) w a)(q:b < w.heap.size)
(n:tmps.getD 2 undef=Z (W ⟨w.heap.size,0,O⟩))(o:tmps.getD 3 undef=.nilIface):
 bodyPost π c (yh w b s p d t) .ret { tmps:=tmps,defers:=[] } (((a.setCell ⟨w.heap.size,0,O⟩ (V I t.k)).setCell ⟨w.heap.size,1,O⟩ (xR t.s)).setCell ⟨w.heap.size,2,O⟩ (V I (t.a:Int))):=by
 have m:=nk a w.heap.size 305 _ _ _ (V I t.k) (xR t.s) (V I (t.a:Int)) g;have f:=(((ξ (·=w.heap.size) a).setCell (p:=⟨w.heap.size,0,O⟩) (λ_=>rfl) (V I t.k)).setCell (p:=⟨w.heap.size,1,O⟩) (λ_=>rfl) (xR t.s)).setCell (p:=⟨w.heap.size,2,O⟩) (λ_=>rfl) (V I (t.a:Int));refine bodyPost_ret (nc k _ w.heap.size _ _ _ _ m n) rfl ⟨by rw[o];rfl,f.heap l (by omega),j.step f (λi r e=>by omega)⟩
theorem qM(a:Nat)(s:ByteArray)(p d:Nat)(q:p<=1000000)(F:d<=1000000)(C:s.size<=1000000)(n:yC s p [91]=true)(w:World)(c:yb w a s p d):
 Calls π 264 #[Z (W ⟨a,0,O⟩)] w (yh w a s (p+1) (d+1) ⟨8,[],p⟩):=by
 have t:=lt_of_heap c;have R:∀o:Obj,(w.alloc o).cell? ⟨a,2,O⟩=W (V I (d:Int)):=λo=>ae (aa o c) 2;have T:∀o:Obj,(w.alloc o).frozen? ⟨a,2,O⟩=false:=λo=>ag (aa o c) 2;have G:IntKind.i64.wrap ((d:Int)+1)=(d:Int)+1:=zU _ (by omega);have g:(w.setCell ⟨a,2,O⟩ (V I ((d:Int)+1))).heap.size=w.heap.size:=by simp[World.setCell]
 have i:yb (((w.setCell ⟨a,2,O⟩ (V I ((d:Int)+1))).alloc (J #[V I 0,U ⟨#[]⟩,V I 0] 305)).alloc (J #[V .u8 91] 5)) a s p (d+1):=aa _ (aa _ (ai c 2 _));have m:(((w.setCell ⟨a,2,O⟩ (V I ((d:Int)+1))).alloc (J #[V I 0,U ⟨#[]⟩,V I 0] 305)).alloc (J #[V .u8 91] 5)).heap[w.heap.size]? =W (J #[V I 0,U ⟨#[]⟩,V I 0] 305 (0,0)):=aa _ (ah _ _ _ g.symm);have r:Far (·=a) w (((w.setCell ⟨a,2,O⟩ (V I ((d:Int)+1))).alloc (J #[V I 0,U ⟨#[]⟩,V I 0] 305)).alloc (J #[V .u8 91] 5)):=(((ξ (·=a) w).setCell (p:=⟨a,2,O⟩) (λ_=>rfl) _).alloc _).alloc _;have f:=cO a s p (d+1) p 0 (by omega) q C [91] (w.heap.size+1) 1 rfl (by omega) _ i (dI ((w.setCell ⟨a,2,O⟩ (V I ((d:Int)+1))).alloc (J #[V I 0,U ⟨#[]⟩,V I 0] 305)) [91] 5 _ (by simp[g]));rw[n]at f;have l:=cB 8 a s p (d+1) q _ i;obtain⟨y,D,u,v⟩:=zx4 f l m r;clear c i f l m r n g
 go_enter func264,ntmps264
 go_wp2_with fail
 refine y.out.mono ?_;rintro e M ⟨rfl,rfl⟩
 go_wp2_with fail
 refine D.out.mono ?_;rintro e E ⟨rfl,k,j⟩;unfold tkV;have b:=j.heap u.out (by omega);have S:=zF b 0 rfl;have N:=zF b 1 rfl;have H:=zF b 2 rfl;have L:=ag b 0;have X:=ag b 1;have P:=ag b 2;obtain⟨A,x⟩:=zx2 b k;have z:=zD (v.out.trans j);clear b k j
 go_wp2_with fail
 exact aF results264 w E a s _ _ ⟨8,[],p⟩ _ A.out x.out z.out t rfl rfl
theorem qN(a:Nat)(s:ByteArray)(p d:Nat)(q:p<=1000000)(F:d<=1000000)(C:s.size<=1000000)(n:yC s p [91]=false)(w:World)(c:yb w a s p d):
 Calls π 264 #[Z (W ⟨a,0,O⟩)] w (yh w a s (p+1) (d+1) ⟨10,[],p⟩):=by
 have t:=lt_of_heap c;have R:∀o:Obj,(w.alloc o).cell? ⟨a,2,O⟩=W (V I (d:Int)):=λo=>ae (aa o c) 2;have T:∀o:Obj,(w.alloc o).frozen? ⟨a,2,O⟩=false:=λo=>ag (aa o c) 2;have G:IntKind.i64.wrap ((d:Int)+1)=(d:Int)+1:=zU _ (by omega);have g:(w.setCell ⟨a,2,O⟩ (V I ((d:Int)+1))).heap.size=w.heap.size:=by simp[World.setCell]
 have i:yb (((w.setCell ⟨a,2,O⟩ (V I ((d:Int)+1))).alloc (J #[V I 0,U ⟨#[]⟩,V I 0] 305)).alloc (J #[V .u8 91] 5)) a s p (d+1):=aa _ (aa _ (ai c 2 _));have m:(((w.setCell ⟨a,2,O⟩ (V I ((d:Int)+1))).alloc (J #[V I 0,U ⟨#[]⟩,V I 0] 305)).alloc (J #[V .u8 91] 5)).heap[w.heap.size]? =W (J #[V I 0,U ⟨#[]⟩,V I 0] 305 (0,0)):=aa _ (ah _ _ _ g.symm);have r:Far (·=a) w (((w.setCell ⟨a,2,O⟩ (V I ((d:Int)+1))).alloc (J #[V I 0,U ⟨#[]⟩,V I 0] 305)).alloc (J #[V .u8 91] 5)):=(((ξ (·=a) w).setCell (p:=⟨a,2,O⟩) (λ_=>rfl) _).alloc _).alloc _;have f:=cO a s p (d+1) p 0 (by omega) q C [91] (w.heap.size+1) 1 rfl (by omega) _ i (dI ((w.setCell ⟨a,2,O⟩ (V I ((d:Int)+1))).alloc (J #[V I 0,U ⟨#[]⟩,V I 0] 305)) [91] 5 _ (by simp[g]));rw[n]at f;have l:=cB 10 a s p (d+1) q _ i;obtain⟨y,D,u,v⟩:=zx4 f l m r;clear c i f l m r n g
 go_enter func264,ntmps264
 go_wp2_with fail
 refine y.out.mono ?_;rintro e M ⟨rfl,rfl⟩
 go_wp2_with fail
 refine D.out.mono ?_;rintro e E ⟨rfl,k,j⟩;unfold tkV;have b:=j.heap u.out (by omega);have S:=zF b 0 rfl;have N:=zF b 1 rfl;have H:=zF b 2 rfl;have L:=ag b 0;have X:=ag b 1;have P:=ag b 2;obtain⟨A,x⟩:=zx2 b k;have z:=zD (v.out.trans j);clear b k j
 go_wp2_with fail
 exact aF results264 w E a s _ _ ⟨10,[],p⟩ _ A.out x.out z.out t rfl rfl
theorem ul(a:Nat)(s:ByteArray)(p:Nat)(R:p<=900000)(C:s.size<=1000000)(n:Tp.isB (s.data.toList.drop (p+1))=true)(w:World)(g:yb w a s p 0):
 Calls π 262 #[Z (W ⟨a,0,O⟩)] w (yh w a s (p+1) 0 ⟨5,[],p⟩):=by
 have o:=lt_of_heap g;have f:yb (w.alloc (J #[V I 0,U ⟨#[]⟩,V I 0] 305)) a s p 0:=aa _ g;have m:(w.alloc (J #[V I 0,U ⟨#[]⟩,V I 0] 305)).heap[w.heap.size]? =W (J #[V I 0,U ⟨#[]⟩,V I 0] 305):=af w _;have l:Far (·=a) w (w.alloc (J #[V I 0,U ⟨#[]⟩,V I 0] 305)):=(ξ _ w).alloc _;have d:=dk a s p 0 (p+1) 1 (by omega) (by omega) C _ f;rw[n]at d;obtain⟨y,q,u,v⟩:=zx4 d f m l;clear g f d m l n
 go_enter func262,ntmps262
 go_wp2_with fail
 refine y.out.mono ?_;rintro e L ⟨rfl,c⟩;have i:=q.out.below c (by simp;omega);have r:=zD ((c.block _ (by simp)).trans u.out);have t:=zD (v.out.below c);have D:=zD (cB 5 a s p 0 (by omega) _ i);have E:=c.size;rw[show (w.alloc (J #[V I 0,U ⟨#[]⟩,V I 0] 305)).heap.size=w.heap.size+1 by simp]at E;have P:=zF i 2 rfl;clear i c
 go_wp2_with fail
 refine D.out.mono ?_;rintro e F ⟨rfl,k,j⟩;unfold tkV;have b:=j.heap r.out (by omega);have S:=zF b 0 rfl;have M:=zF b 1 rfl;have G:=zF b 2 rfl;have H:=ag b 0;have T:=ag b 1;have N:=ag b 2;obtain⟨A,x⟩:=zx2 b k;have z:=zD (t.out.trans j);clear b k j
 go_wp2_with fail
 exact aF results262 w F a s _ _ ⟨5,[],p⟩ _ A.out x.out z.out o rfl rfl
theorem sA(a:Nat)(s:ByteArray)(p d:Nat)(R:p<=900000)(D:s.size<=1000000)(n:Tp.closed d (s.data.toList.drop (p+1))=true)(w:World)(i:yb w a s p d):
 Calls π 263 #[Z (W ⟨a,0,O⟩)] w (yh w a s (p+1) d ⟨6,[],p⟩):=by
 have q:=lt_of_heap i;have g:yb (w.alloc (J #[V I 0,U ⟨#[]⟩,V I 0] 305)) a s p d:=aa _ i;have m:(w.alloc (J #[V I 0,U ⟨#[]⟩,V I 0] 305)).heap[w.heap.size]? =W (J #[V I 0,U ⟨#[]⟩,V I 0] 305):=af w _;have l:Far (·=a) w (w.alloc (J #[V I 0,U ⟨#[]⟩,V I 0] 305)):=(ξ _ w).alloc _;have f:=bT a s p d (p+1) 1 (by omega) (by omega) D _ g;rw[n]at f;obtain⟨z,r,v,x⟩:=zx4 f g m l;clear i g f m l n
 go_enter func263,ntmps263
 go_wp2_with fail
 refine z.out.mono ?_;rintro e M ⟨rfl,c⟩;have o:=r.out.below c (by simp;omega);have t:=zD ((c.block _ (by simp)).trans v.out);have u:=zD (x.out.below c);have E:=zD (cB 6 a s p d (by omega) _ o);have F:=c.size;rw[show (w.alloc (J #[V I 0,U ⟨#[]⟩,V I 0] 305)).heap.size=w.heap.size+1 by simp]at F;clear o c
 go_wp2_with fail
 refine E.out.mono ?_;rintro e G ⟨rfl,k,j⟩;unfold tkV;have b:=j.heap t.out (by omega);have S:=zF b 0 rfl;have N:=zF b 1 rfl;have H:=zF b 2 rfl;have L:=ag b 0;have T:=ag b 1;have P:=ag b 2;obtain⟨C,y⟩:=zx2 b k;have A:=zD (u.out.trans j);clear b k j
 go_wp2_with fail
 exact aF results263 w G a s _ _ ⟨6,[],p⟩ _ C.out y.out A.out q rfl rfl
theorem jf:Maps.Keyed π 5:=Maps.int_keyed underlying5
def Ai:List (Value × Value):=[(V .u8 44,V I 7),(V .u8 93,V I 9),(V .u8 125,V I 11)]
theorem rp(w:World):∃a,∃b c:World,(Instr.mapUpdate 452 (.map (W w.heap.size)) (.int .u8 44) (.int I 7)).run π (w.alloc (.map #[] 0))=.ok () b/\(Instr.mapUpdate 452 (.map (W w.heap.size)) (.int .u8 93) (.int I 9)).run π b=.ok () c/\(Instr.mapUpdate 452 (.map (W w.heap.size)) (.int .u8 125) (.int I 11)).run π c=.ok () a/\xW π 5 a w.heap.size Ai/\Below w.heap.size w a:=by
 have p:xW π 5 (w.alloc (.map #[] 0)) w.heap.size []:=aL w;obtain⟨b,f,n,g⟩:=p.put jf underlying452 (.int .u8 44) (.int I 7) (l:=.int .u8 44) (by kernel_rfl) (by simp);obtain⟨c,o,k,d⟩:=n.put jf underlying452 (.int .u8 93) (.int I 9) (l:=.int .u8 93) (by kernel_rfl) (by simp);obtain⟨a,j,q,m⟩:=k.put jf underlying452 (.int .u8 125) (.int I 11) (l:=.int .u8 125) (by kernel_rfl) (by simp);exact⟨a,b,c,f,o,j,q,(((ξ (·=w.heap.size) w).alloc _).step (D':=(·=w.heap.size)) (g.trans (d.trans m)) (λi r e=>e)).to_below (η _) (λi r e=>by omega)⟩
theorem kJ(c:Nat)(s:ByteArray)(p d:Nat)(a1:p<=900000)(X:d<=1000000)(a4:s.size<=1000000)(j:s.data.toList[p]? =W 44)(w:World)(k:yb w c s p (d+1)):
 Calls π 265 #[.pointer (W ⟨c,0,O⟩)] w (yh w c s (p+1) (d+1) ⟨7,[],p⟩):=by
 have z:=lt_of_heap k;have R:p < s.size:=by
  rw[<-ap];exact(zM.1 j).1
 have y:=λa=>run_index_string (P:=π) a 9 s I (p:Int) underlying9;have x:(s[p]'R).toNat=44:=by
  have:=(zM.1 j).2;exact congrArg UInt8.toNat this
 simp only[show (0:Int)<=(p:Int)/\(p:Int) < (s.size:Int)from ⟨by omega,by omega⟩,dif_pos,Int.toNat_natCast,and_self,x]at y;obtain⟨a,ao,a6,S,N,A,i,g⟩:=rp (w.alloc (J #[.int I 0,.string ⟨#[]⟩,.int I 0] 305));rw[show (w.alloc (J #[.int I 0,.string ⟨#[]⟩,.int I 0] 305)).heap.size=w.heap.size+1 by simp]at S N A i g;have v:yb a c s p (d+1):=(g.block _ (by omega)).trans (aa _ k);have u:a.heap[w.heap.size]? =W (J #[.int I 0,.string ⟨#[]⟩,.int I 0] 305):=(g.block _ (by omega)).trans (af w _);have t:Far (·=c) w a:=((ξ _ w).alloc _).below (by rw[show (w.alloc (J #[.int I 0,.string ⟨#[]⟩,.int I 0] 305)).heap.size=w.heap.size+1 by simp];exact g);have a3:∀n,(Instr.lookup 452 (.map (W (w.heap.size+1))) (.int .u8 44) false).run π (a.drewN n)=.ok (.int I 7) (a.drewN n):=λn=>(show xW π 5 (a.drewN n) _ Ai from i).look_in jf underlying452 (zeroValue3 _) (.int .u8 44) (l:=.int .u8 44) (by kernel_rfl) false (.int I 7) (by simp[Ai]) (by simp[Ai]);obtain⟨f,r,F⟩:=zx3 v u t;have ad:=@run_makeMap π;clear k v u t i g j x
 go_enter func265,ntmps265
 go_wp2_with fail
 have be:=zF f.out 0 rfl;have av:=zF f.out 1 rfl;have a0:=zF f.out 2 rfl;have a9:=ag f.out 2;have bb:¬(((d+1:Nat)):Int)=0:=by omega
 have bk:IntKind.i64.wrap ((((d+1:Nat)):Int) - 1)=(d:Int):=by rw[show (((d+1:Nat)):Int) - 1=(d:Int)by omega];exact zU _ (by omega)
 generalize ((d+1:Nat):Int)=D at *
 go_quiet (fail)
 have E:=zD (F.out.drewN nq);have o:((a.drewN nq).heap[w.heap.size]? =W (J #[.int I 0,.string ⟨#[]⟩,.int I 0] 305)):=r.out;have C:=zD o;clear o;have M:=zD (cB 7 c s p (d+1) (by omega) (a.drewN nq) (f.out));have a5:=(lt_of_heap r.out)
 go_wp2_with fail
 refine M.out.mono ?_;rintro e T ⟨rfl,q,m⟩;unfold tkV;have b:=m.heap C.out (by omega);have a2:=zF b 0 rfl;have al:=zF b 1 rfl;have ab:=zF b 2 rfl;have ac:=ag b 0;have ba:=ag b 1;have an:=ag b 2;obtain⟨L,G⟩:=zx2 b q;have H:=zD (E.out.trans m);clear b q m
 go_wp2_with fail
 exact aF results265 w T c s _ _ ⟨7,[],p⟩ _ L.out G.out H.out z rfl rfl
theorem kK(b:Nat)(s:ByteArray)(p d:Nat)(a1:p<=900000)(X:d<=1000000)(a4:s.size<=1000000)(j:s.data.toList[p]? =W 93)(w:World)(k:yb w b s p (d+1)):
 Calls π 265 #[.pointer (W ⟨b,0,O⟩)] w (yh w b s (p+1) (d) ⟨9,[],p⟩):=by
 have z:=lt_of_heap k;have R:p < s.size:=by
  rw[<-ap];exact(zM.1 j).1
 have y:=λa=>run_index_string (P:=π) a 9 s I (p:Int) underlying9;have x:(s[p]'R).toNat=93:=by
  have:=(zM.1 j).2;exact congrArg UInt8.toNat this
 simp only[show (0:Int)<=(p:Int)/\(p:Int) < (s.size:Int)from ⟨by omega,by omega⟩,dif_pos,Int.toNat_natCast,and_self,x]at y;obtain⟨a,ao,a6,S,N,A,i,g⟩:=rp (w.alloc (J #[.int I 0,.string ⟨#[]⟩,.int I 0] 305));rw[show (w.alloc (J #[.int I 0,.string ⟨#[]⟩,.int I 0] 305)).heap.size=w.heap.size+1 by simp]at S N A i g;have v:yb a b s p (d+1):=(g.block _ (by omega)).trans (aa _ k);have u:a.heap[w.heap.size]? =W (J #[.int I 0,.string ⟨#[]⟩,.int I 0] 305):=(g.block _ (by omega)).trans (af w _);have t:Far (·=b) w a:=((ξ _ w).alloc _).below (by rw[show (w.alloc (J #[.int I 0,.string ⟨#[]⟩,.int I 0] 305)).heap.size=w.heap.size+1 by simp];exact g);have a3:∀n,(Instr.lookup 452 (.map (W (w.heap.size+1))) (.int .u8 93) false).run π (a.drewN n)=.ok (.int I 9) (a.drewN n):=λn=>(show xW π 5 (a.drewN n) _ Ai from i).look_in jf underlying452 (zeroValue3 _) (.int .u8 93) (l:=.int .u8 93) (by kernel_rfl) false (.int I 9) (by simp[Ai]) (by simp[Ai]);obtain⟨f,r,F⟩:=zx3 v u t;have ad:=@run_makeMap π;clear k v u t i g j x
 go_enter func265,ntmps265
 go_wp2_with fail
 have be:=zF f.out 0 rfl;have av:=zF f.out 1 rfl;have a0:=zF f.out 2 rfl;have a9:=ag f.out 2;have bb:¬(((d+1:Nat)):Int)=0:=by omega
 have bk:IntKind.i64.wrap ((((d+1:Nat)):Int) - 1)=(d:Int):=by rw[show (((d+1:Nat)):Int) - 1=(d:Int)by omega];exact zU _ (by omega)
 generalize ((d+1:Nat):Int)=D at *
 go_quiet (fail)
 have E:=zD ((F.out.drewN nq).setCell (p:=⟨b,2,O⟩) (λ_=>rfl) (.int I (d:Int)));have o:(((a.drewN nq).setCell ⟨b,2,O⟩ (.int I (d:Int))).heap[w.heap.size]? =W (J #[.int I 0,.string ⟨#[]⟩,.int I 0] 305)):=(Below.heap_setCell _ _ _ _ (by show w.heap.size≠b;omega)).trans r.out;have C:=zD o;clear o;have M:=zD (cB 9 b s p (d) (by omega) ((a.drewN nq).setCell ⟨b,2,O⟩ (.int I (d:Int))) (ai (w:=a.drewN nq) f.out 2 _));have a5:=(lt_of_heap r.out)
 go_wp2_with fail
 refine M.out.mono ?_;rintro e T ⟨rfl,q,m⟩;unfold tkV;have c:=m.heap C.out (by omega);have a2:=zF c 0 rfl;have al:=zF c 1 rfl;have ab:=zF c 2 rfl;have ac:=ag c 0;have ba:=ag c 1;have an:=ag c 2;obtain⟨L,G⟩:=zx2 c q;have H:=zD (E.out.trans m);clear c q m
 go_wp2_with fail
 exact aF results265 w T b s _ _ ⟨9,[],p⟩ _ L.out G.out H.out z rfl rfl
theorem pi(b:Nat)(s:ByteArray)(p d:Nat)(a1:p<=900000)(X:d<=1000000)(a4:s.size<=1000000)(j:s.data.toList[p]? =W 125)(w:World)(k:yb w b s p (d+1)):
 Calls π 265 #[.pointer (W ⟨b,0,O⟩)] w (yh w b s (p+1) (d) ⟨11,[],p⟩):=by
 have z:=lt_of_heap k;have R:p < s.size:=by
  rw[<-ap];exact(zM.1 j).1
 have y:=λa=>run_index_string (P:=π) a 9 s I (p:Int) underlying9;have x:(s[p]'R).toNat=125:=by
  have:=(zM.1 j).2;exact congrArg UInt8.toNat this
 simp only[show (0:Int)<=(p:Int)/\(p:Int) < (s.size:Int)from ⟨by omega,by omega⟩,dif_pos,Int.toNat_natCast,and_self,x]at y;obtain⟨a,ao,a6,S,N,A,i,g⟩:=rp (w.alloc (J #[.int I 0,.string ⟨#[]⟩,.int I 0] 305));rw[show (w.alloc (J #[.int I 0,.string ⟨#[]⟩,.int I 0] 305)).heap.size=w.heap.size+1 by simp]at S N A i g;have v:yb a b s p (d+1):=(g.block _ (by omega)).trans (aa _ k);have u:a.heap[w.heap.size]? =W (J #[.int I 0,.string ⟨#[]⟩,.int I 0] 305):=(g.block _ (by omega)).trans (af w _);have t:Far (·=b) w a:=((ξ _ w).alloc _).below (by rw[show (w.alloc (J #[.int I 0,.string ⟨#[]⟩,.int I 0] 305)).heap.size=w.heap.size+1 by simp];exact g);have a3:∀n,(Instr.lookup 452 (.map (W (w.heap.size+1))) (.int .u8 125) false).run π (a.drewN n)=.ok (.int I 11) (a.drewN n):=λn=>(show xW π 5 (a.drewN n) _ Ai from i).look_in jf underlying452 (zeroValue3 _) (.int .u8 125) (l:=.int .u8 125) (by kernel_rfl) false (.int I 11) (by simp[Ai]) (by simp[Ai]);obtain⟨f,r,F⟩:=zx3 v u t;have ad:=@run_makeMap π;clear k v u t i g j x
 go_enter func265,ntmps265
 go_wp2_with fail
 have be:=zF f.out 0 rfl;have av:=zF f.out 1 rfl;have a0:=zF f.out 2 rfl;have a9:=ag f.out 2;have bb:¬(((d+1:Nat)):Int)=0:=by omega
 have bk:IntKind.i64.wrap ((((d+1:Nat)):Int) - 1)=(d:Int):=by rw[show (((d+1:Nat)):Int) - 1=(d:Int)by omega];exact zU _ (by omega)
 generalize ((d+1:Nat):Int)=D at *
 go_quiet (fail)
 have E:=zD ((F.out.drewN nq).setCell (p:=⟨b,2,O⟩) (λ_=>rfl) (.int I (d:Int)));have o:(((a.drewN nq).setCell ⟨b,2,O⟩ (.int I (d:Int))).heap[w.heap.size]? =W (J #[.int I 0,.string ⟨#[]⟩,.int I 0] 305)):=(Below.heap_setCell _ _ _ _ (by show w.heap.size≠b;omega)).trans r.out;have C:=zD o;clear o;have M:=zD (cB 11 b s p (d) (by omega) ((a.drewN nq).setCell ⟨b,2,O⟩ (.int I (d:Int))) (ai (w:=a.drewN nq) f.out 2 _));have a5:=(lt_of_heap r.out)
 go_wp2_with fail
 refine M.out.mono ?_;rintro e T ⟨rfl,q,m⟩;unfold tkV;have c:=m.heap C.out (by omega);have a2:=zF c 0 rfl;have al:=zF c 1 rfl;have ab:=zF c 2 rfl;have ac:=ag c 0;have ba:=ag c 1;have an:=ag c 2;obtain⟨L,G⟩:=zx2 c q;have H:=zD (E.out.trans m);clear c q m
 go_wp2_with fail
 exact aF results265 w T b s _ _ ⟨11,[],p⟩ _ L.out G.out H.out z rfl rfl
def rdF(a b:Nat):Value:=.iface 360 (φ (.func a) #[Z (W ⟨b,0,O⟩)] #[])
def yG(a:Nat):List (Value × Value):=[(V .u8 34,rdF 260 a),(V .u8 39,rdF 260 a),(V .u8 38,rdF 261 a),(V .u8 42,rdF 261 a),(V .u8 45,rdF 262 a),(V .u8 58,rdF 263 a),(V .u8 91,rdF 264 a),(V .u8 123,rdF 264 a),(V .u8 44,rdF 265 a),(V .u8 93,rdF 265 a),(V .u8 125,rdF 265 a)]
theorem fB(a:Nat)(w:World):Calls π 233 #[.pointer (W ⟨a,0,O⟩)] w λe w'=>e=ρ (.map (W w.heap.size))/\xW π 5 w' w.heap.size (yG a)/\Below w.heap.size w w':=by
 have S:=@run_makeMap π;have d:xW π 5 (w.alloc (.map #[] 0)) w.heap.size []:=aL w;obtain⟨M,a1,n,j⟩:=d.put jf underlying404 (.int .u8 34) (.iface 360 (φ (.func 260) #[.pointer (W ⟨a,0,O⟩)] #[])) (l:=.int .u8 34) (by kernel_rfl) (by simp);obtain⟨a5,an,c,x⟩:=n.put jf underlying404 (.int .u8 39) (.iface 360 (φ (.func 260) #[.pointer (W ⟨a,0,O⟩)] #[])) (l:=.int .u8 39) (by kernel_rfl) (by simp);obtain⟨R,a2,t,C⟩:=c.put jf underlying404 (.int .u8 38) (.iface 360 (φ (.func 261) #[.pointer (W ⟨a,0,O⟩)] #[])) (l:=.int .u8 38) (by kernel_rfl) (by simp);obtain⟨L,a3,m,A⟩:=t.put jf underlying404 (.int .u8 42) (.iface 360 (φ (.func 261) #[.pointer (W ⟨a,0,O⟩)] #[])) (l:=.int .u8 42) (by kernel_rfl) (by simp);obtain⟨w5,N,p,s⟩:=m.put jf underlying404 (.int .u8 45) (.iface 360 (φ (.func 262) #[.pointer (W ⟨a,0,O⟩)] #[])) (l:=.int .u8 45) (by kernel_rfl) (by simp);obtain⟨X,ad,y,u⟩:=p.put jf underlying404 (.int .u8 58) (.iface 360 (φ (.func 263) #[.pointer (W ⟨a,0,O⟩)] #[])) (l:=.int .u8 58) (by kernel_rfl) (by simp);obtain⟨ac,T,o,g⟩:=y.put jf underlying404 (.int .u8 91) (.iface 360 (φ (.func 264) #[.pointer (W ⟨a,0,O⟩)] #[])) (l:=.int .u8 91) (by kernel_rfl) (by simp);obtain⟨a0,av,r,b⟩:=o.put jf underlying404 (.int .u8 123) (.iface 360 (φ (.func 264) #[.pointer (W ⟨a,0,O⟩)] #[])) (l:=.int .u8 123) (by kernel_rfl) (by simp);obtain⟨a4,ab,z,D⟩:=r.put jf underlying404 (.int .u8 44) (.iface 360 (φ (.func 265) #[.pointer (W ⟨a,0,O⟩)] #[])) (l:=.int .u8 44) (by kernel_rfl) (by simp);obtain⟨al,ao,k,f⟩:=z.put jf underlying404 (.int .u8 93) (.iface 360 (φ (.func 265) #[.pointer (W ⟨a,0,O⟩)] #[])) (l:=.int .u8 93) (by kernel_rfl) (by simp);obtain⟨E,P,q,v⟩:=k.put jf underlying404 (.int .u8 125) (.iface 360 (φ (.func 265) #[.pointer (W ⟨a,0,O⟩)] #[])) (l:=.int .u8 125) (by kernel_rfl) (by simp);have G:Below w.heap.size w E:=(((ξ (·=w.heap.size) w).alloc _).step (D':=(·=w.heap.size)) ((((((((((j.trans x).trans C).trans A).trans s).trans u).trans g).trans b).trans D).trans f).trans v) (λi H e=>e)).to_below (η _) (λi H e=>by omega);clear d n c t m p y o r z k j x C A s u g b D f v;have F:=zD q;clear q
 go_enter func233,ntmps233
 go_wp2
 go_ret
 exact⟨rfl,F.out,G⟩
theorem xF(a:UInt8):keyOf π 5 (.int .u8 (a.toNat:Int))=W (.int .u8 (a.toNat:Int)):=Maps.keyOf_int_mk underlying5 (by have:=a.toNat_lt;unfold Lit.wf;simp[IntKind.min,IntKind.max,IntKind.bits,IntKind.signed];omega)
theorem pG(w:World):(zeroValue 20).run π w=.ok .nilIface w:=by kernel_rfl
theorem bV(g:Nat)(i:UInt8)(a:Nat)(s:ByteArray)(p d S N:Nat)(t:Tp.Tk)(bs:s.size<=1000000)(z:s.data.toList[p]? =W i)(m:(.int .u8 (i.toNat:Int),rdF g a)∈yG a)(bm:∀args w,(callFunc g args).run π w=.ok (.enter g args) w)
(w:World)(u:yb w a s p d)(T:∀b,yb b a s p d->Below w.heap.size w b->Calls π g #[.pointer (W ⟨a,0,O⟩)] b (yh b a s S N t)):
 Calls π 198 #[.pointer (W ⟨a,0,O⟩)] w (yh w a s S N t):=by
 have ao:p < s.size:=by rw[<-ap];exact(zM.1 z).1
 have a9:∀b,(Instr.index 9 (.string s) (.int I (p:Int))).run π b=.ok (.int .u8 (i.toNat:Int)) b:=by
  intro b;rw[vQ s (p:Int) p rfl ao b];unfold Ln.nat
  rw[zY,z];rfl
 have D:∀q∈yG a,q.1=.int .u8 (i.toNat:Int)->q.2=rdF g a:=by
  intro q v y;revert m
  unfold yG at v ⊢;intro m;simp only[List.mem_cons,List.not_mem_nil,or_false,Prod.mk.injEq]at m v;rcases v with rfl|rfl|rfl|rfl|rfl|rfl|rfl|rfl|rfl|rfl|rfl<;>simp only at y<;>injection y with _ y<;>rcases m with ⟨c,f⟩|⟨c,f⟩|⟨c,f⟩|⟨c,f⟩|⟨c,f⟩|⟨c,f⟩|⟨c,f⟩|⟨c,f⟩|⟨c,f⟩|⟨c,f⟩|⟨c,f⟩<;>injection c with _ c<;>first|exact f.symm|omega
 have M:∀b B,xW π 5 b B (yG a)->(Instr.lookup 404 (.map (W B)) (.int .u8 (i.toNat:Int)) true).run π b=.ok (.tuple #[rdF g a,.bool true]) b:=
  λb B n=>n.look_in jf underlying404 (pG _) (.int .u8 (i.toNat:Int)) (xF i) true (rdF g a) m D
 have A:=lt_of_heap u;have r:yb (w.alloc (J #[.int I 0,.string ⟨#[]⟩,.int I 0] 305)) a s p d:=aa _ u;have G:(w.alloc (J #[.int I 0,.string ⟨#[]⟩,.int I 0] 305)).heap[w.heap.size]? =W (J #[.int I 0,.string ⟨#[]⟩,.int I 0] 305):=af w _;have F:Below w.heap.size w (w.alloc (J #[.int I 0,.string ⟨#[]⟩,.int I 0] 305)):=(ζ _ w).alloc (η _) _;obtain⟨ba,ad,be,P,an⟩:=zx5 r G F M T;have X:=zF r 0 rfl;have L:=zF r 1 rfl;have a2:=zD u;have bw:∀b,(Instr.typeAssert (.iface 360 (φ (.func g) #[.pointer (W ⟨a,0,O⟩)] #[])) 20 360 false).run π b=.ok (φ (.func g) #[.pointer (W ⟨a,0,O⟩)] #[]) b:=λb=>by kernel_rfl
 clear u r G F M T D m z;unfold rdF at P;generalize ((i.toNat:Nat):Int)=bb at *
 go_enter func198,ntmps198
 go_upto_region 1 with (fail)
 go_region_held3 (λw'=>w'.cell? ⟨a,0,O⟩=W (.string s)/\w'.cell? ⟨a,1,O⟩=W (.int I (p:Int))) (first|(with_reducible exact⟨X,L⟩)|exact⟨(World.cell?_of_block (k.block a (by simp;omega))).trans X,(World.cell?_of_block (k.block a (by simp;omega))).trans L⟩|go_keep) (first|(go_at_call 233;refine(fB a _).mono ?_;rintro e l ⟨rfl,n,k⟩;have a1:=P.out l (w.heap.size+1) (by simpa using n)))
 all_goals (
  have R:Far xO w l:=by first|exact(((ξ xO w).alloc _).drew).below k|exact(((ξ xO w).alloc _).drewN _).below k
  have o:Below w.heap.size w l:=R.to_below (η _) (λ_ _ e=>e);have E:yb l a s p d:=(o.block a A).trans a2.out;have H:l.heap[w.heap.size]? =W (J #[.int I 0,.string ⟨#[]⟩,.int I 0] 305):=(k.block _ (by simp)).trans ad.out;have a3:=zD (an.out l E o);have ab:=zD H;have ac:=zD (Far.of_below o (·=a));clear n k a1 o E H R
  go_wp2_with fail
  refine a3.out.mono ?_;rintro e a4 ⟨rfl,C,x⟩;unfold tkV;have j:=x.heap ab.out (by omega);have bq:=zF j 0 rfl;have bk:=zF j 1 rfl;have a5:=zF j 2 rfl;have a6:=ag j 0;have bx:=ag j 1;have bn:=ag j 2;obtain⟨a0,al⟩:=zx2 j C;have av:=zD (ac.out.trans x);clear j C x
  go_wp2_with fail
  exact aF results198 w a4 a s _ _ t _ a0.out al.out av.out A rfl rfl
)
theorem qP(f:UInt8)(a:Nat)(s:ByteArray)(p d G D:Nat)(t:Tp.Tk)(ba:s.size<=1000000)(o:s.data.toList[p]? =W f)(F:∀q∈yG a,q.1≠.int .u8 (f.toNat:Int))
(w:World)(m:yb w a s p d)(H:∀b,yb b a s p d->Below w.heap.size w b->Calls π 234 #[.pointer (W ⟨a,0,O⟩)] b (yh b a s G D t)):
 Calls π 198 #[.pointer (W ⟨a,0,O⟩)] w (yh w a s G D t):=by
 have T:p < s.size:=by rw[<-ap];exact(zM.1 o).1
 have a1:∀b,(Instr.index 9 (.string s) (.int I (p:Int))).run π b=.ok (.int .u8 (f.toNat:Int)) b:=by
  intro b;rw[vQ s (p:Int) p rfl T b];unfold Ln.nat
  rw[zY,o];rfl
 have C:∀b B,xW π 5 b B (yG a)->(Instr.lookup 404 (.map (W B)) (.int .u8 (f.toNat:Int)) true).run π b=.ok (.tuple #[.nilIface,.bool false]) b:=
  λb B j=>j.look_out jf underlying404 (pG _) (.int .u8 (f.toNat:Int)) (xF f) true F
 have r:=lt_of_heap m;have l:yb (w.alloc (J #[.int I 0,.string ⟨#[]⟩,.int I 0] 305)) a s p d:=aa _ m;have y:(w.alloc (J #[.int I 0,.string ⟨#[]⟩,.int I 0] 305)).heap[w.heap.size]? =W (J #[.int I 0,.string ⟨#[]⟩,.int I 0] 305):=af w _;have x:Below w.heap.size w (w.alloc (J #[.int I 0,.string ⟨#[]⟩,.int I 0] 305)):=(ζ _ w).alloc (η _) _;obtain⟨a2,P,a4,ac,S⟩:=zx5 l y x C H;have L:=zF l 0 rfl;have A:=zF l 1 rfl;have al:=zD m;clear m l y x C H F o;generalize ((f.toNat:Nat):Int)=a3 at *
 go_enter func198,ntmps198
 go_upto_region 1 with (fail)
 go_region_held3 (λw'=>w'.cell? ⟨a,0,O⟩=W (.string s)/\w'.cell? ⟨a,1,O⟩=W (.int I (p:Int))) (first|(with_reducible exact⟨L,A⟩)|exact⟨(World.cell?_of_block (g.block a (by simp;omega))).trans L,(World.cell?_of_block (g.block a (by simp;omega))).trans A⟩|go_keep) (first|(go_at_call 233;refine(fB a _).mono ?_;rintro e i ⟨rfl,j,g⟩;have ad:=ac.out i (w.heap.size+1) (by simpa using j)))
 all_goals (
  have E:Far xO w i:=by first|exact(((ξ xO w).alloc _).drew).below g|exact(((ξ xO w).alloc _).drewN _).below g
  have k:Below w.heap.size w i:=E.to_below (η _) (λ_ _ e=>e);have v:yb i a s p d:=(k.block a r).trans al.out;have z:i.heap[w.heap.size]? =W (J #[.int I 0,.string ⟨#[]⟩,.int I 0] 305):=(g.block _ (by simp)).trans P.out;have an:=zD (S.out i v k);have M:=zD z;have N:=zD (Far.of_below k (·=a));clear j g ad k v z E
  go_wp2_with fail
  refine an.out.mono ?_;rintro e ao ⟨rfl,u,n⟩;unfold tkV;have c:=n.heap M.out (by omega);have a9:=zF c 0 rfl;have a5:=zF c 1 rfl;have av:=zF c 2 rfl;have a0:=ag c 0;have bb:=ag c 1;have a6:=ag c 2;obtain⟨ab,R⟩:=zx2 c u;have X:=zD (N.out.trans n);clear c u n
  go_wp2_with fail
  exact aF results198 w ao a s _ _ t _ ab.out R.out X.out r rfl rfl
)
theorem pw(a:Nat)(s:ByteArray)(p d x u:Nat)(t:Tp.Tk)(ad:p<=900000)(P:s.size<=1000000)(r:Tp.isB (s.data.toList.drop (p+1))=false)(w:World)(k:yb w a s p d)(y:∀c,yb c a s p d->Below w.heap.size w c->Calls π 234 #[Z (W ⟨a,0,O⟩)] c (yh c a s x u t)):
 Calls π 262 #[Z (W ⟨a,0,O⟩)] w (yh w a s x u t):=by
 have z:=lt_of_heap k;have j:yb (w.alloc (J #[V I 0,U ⟨#[]⟩,V I 0] 305)) a s p d:=aa _ k;have q:(w.alloc (J #[V I 0,U ⟨#[]⟩,V I 0] 305)).heap[w.heap.size]? =W (J #[V I 0,U ⟨#[]⟩,V I 0] 305):=af w _;have n:Below w.heap.size w (w.alloc (J #[V I 0,U ⟨#[]⟩,V I 0] 305)):=(ζ _ w).alloc (η _) _;have g:=dk a s p d (p+1) 1 (by omega) (by omega) P _ j;rw[r]at g;obtain⟨L,C,F,o,H⟩:=zx5 g j q n y;clear k j g q n r y
 go_enter func262,ntmps262
 go_wp2_with fail
 refine L.out.mono ?_;rintro e A ⟨rfl,f⟩;have v:=C.out.below f (by simp;omega);have D:=zD ((f.block _ (by simp)).trans F.out);have i:=o.out.trans (f.mono o.out.size);have E:=zD (Far.of_below i (·=a));have R:=zD (H.out A v i);clear v f i
 go_wp2_with fail
 refine R.out.mono ?_;rintro e S ⟨rfl,m,l⟩;unfold tkV;have b:=l.heap D.out (by omega);have al:=zF b 0 rfl;have ab:=zF b 1 rfl;have T:=zF b 2 rfl;have X:=ag b 0;have an:=ag b 1;have ac:=ag b 2;obtain⟨N,G⟩:=zx2 b m;have M:=zD (E.out.trans l);clear b m l
 go_wp2_with fail
 exact aF results262 w S a s _ _ t _ N.out G.out M.out z rfl rfl
theorem bM{B:Nat}{w w':World}(a:Below B w w'):∀n,Below B w (w'.drewN n)
 |0=>a
 |n+1=>(bM a n).drew
def zq(x:Nat):Bool:=Aa (x:Int)
theorem qe(a:UInt8):zq a.toNat=Tp.signC a:=by
 unfold zq Aa Tp.signC;rw[Bool.eq_iff_iff];simp
 omega
theorem gT(x:Nat)(a:128<=x):zq x=false:=by
 unfold zq Aa;simp
 omega
theorem nM(s:ByteArray):∀(b pos:Nat),s.size<=pos+b->Lib.idxFuncFrom zq false s b pos=if pos+((s.data.toList.drop pos).takeWhile Tp.signC).length < s.size then ((pos+((s.data.toList.drop pos).takeWhile Tp.signC).length:Nat):Int)else -1
 |0,pos,h=>by
  rw[List.drop_eq_nil_of_le (by rw[ap];omega)];simp[Lib.idxFuncFrom]
  omega
 |b+1,pos,h=>by
  unfold Lib.idxFuncFrom;by_cases a:pos < s.size
  ·have e:pos < s.data.toList.length:=by rw[ap];exact a
   rw[if_pos a,aX,zW e];generalize s.data.toList[pos]=c;by_cases g:c.toNat < 128
   ·rw[Ln.aM c _ g,qe]
    simp only;cases d:Tp.signC c with
    |false=>
     rw[if_pos rfl,List.takeWhile_cons_of_neg (by rw[d];decide)];simp[a]
    |true=>
     rw[if_neg (by decide),List.takeWhile_cons_of_pos d,nM s b (pos+1) (by omega)];simp only[zO];rw[show pos+1+(List.takeWhile Tp.signC (List.drop (pos+1) s.data.toList)).length=pos+((List.takeWhile Tp.signC (List.drop (pos+1) s.data.toList)).length+1)by omega]
   ·have f:=(Ln.c8 (c::s.data.toList.drop (pos+1)) (show 128<=c.toNat by omega)).1
    rw[gT _ f,if_pos rfl,List.takeWhile_cons_of_neg (by rw[<-qe,gT _ (by omega)];decide)];simp[a]
  ·rw[if_neg a,List.drop_eq_nil_of_le (by rw[ap];omega)]
   simp
   omega
theorem pN(s:ByteArray):(Lib.trimLeftF zq s).size=s.size - (s.data.toList.takeWhile Tp.signC).length:=by
 have b:=(List.takeWhile_sublist Tp.signC (l:=s.data.toList)).length_le;rw[ap]at b;unfold Lib.trimLeftF Lib.idxFunc;rw[nM s s.size 0 (by omega),List.drop_zero,Nat.zero_add];by_cases a:(s.data.toList.takeWhile Tp.signC).length < s.size
 ·rw[if_pos a,if_neg (by omega),ByteArray.size_extract]
  simp
 ·rw[if_neg a,if_pos rfl]
  show 0=_;omega
theorem se(args:Array Value)(w:World):(callFunc 243 args).run π w=.ok (.enter 243 args) w:=by kernel_rfl
theorem qd(w:World):PredGrows π 243 #[] zq w:=by
 intro a x c b;refine(jO (x:Int) a).mono ?_;rintro e w' ⟨rfl,rfl⟩;exact⟨rfl,ζ _ _⟩
theorem oU(s:ByteArray)(w:World):Calls π 286 #[U s,φ (.func 243) #[] #[]] w λe w'=>(∃b:ByteArray,e=ρ (U b)/\b.size=s.size - (s.data.toList.takeWhile Tp.signC).length)/\Below w.heap.size w w':=by
 refine(strings_TrimLeftFunc_grows 243 #[] (λa w=>se a w) zq s w (qd w)).mono ?_;rintro e w' ⟨rfl,c⟩;exact⟨⟨_,rfl,pN s⟩,c⟩
section
section
variable {P:Program} {ops:Array Oper} {md:Region.Mode} {Q:Exit->Act->World->Prop} {S:World->Prop} {fuel:Nat} {listed:Array Bool} {a:Act} {w:World}
end
end
theorem aI(a:World)(l:Nat)(o:Obj):Far (·=l) a (a.putObj l o):=⟨rfl,rfl,rfl,by simp,λ_ _ b=>World.putObj_heap_other b⟩
end Go.Proofs.YtbikgdhbiebhcaaGreatDoor
