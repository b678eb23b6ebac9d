/- Part 3. -/
import Derived.Test.YtbikgdhbiebhcaaGreatDoorW02
import Derived.RangeFuncBox
import Derived.Lib.ConvBytes
import Derived.Maps.RangeRun
import Derived.MapKept
set_option linter.unusedVariables false
set_option linter.unusedSimpArgs false
set_option maxRecDepth 100000
set_option maxHeartbeats 2000000
open Go.Value renaming int -> V, string -> U, slice -> Y, pointer -> Z, func -> φ, agg -> γ, bool -> β
open Go.IntKind renaming i64 -> I
open Option renaming some -> W, none -> O
open Go.Obj renaming cells -> J
open Go.Ending renaming returned -> ρ
open Go.Proofs.Tryz renaming prog -> π
open Nat renaming le_refl -> η
open And renaming intro -> θ
open Go.RowKit.Below renaming refl -> ζ
namespace Go.Proofs.YtbikgdhbiebhcaaGreatDoor
open Go.RowKit Tryz
section
attribute [local go_sem ↓] Go.wp_at_zero Go.wp_at_succ
def RS(c:Nat)(a b:World):Prop:=a.heap.size<=b.heap.size/\∀k x,k=c\/k=5->a.heap[k]? =W x->b.heap[k]? =W x
def zr(s:ByteArray)(t:Nat):ByteArray:=⟨((Ln.rows s.data.toList).getD t []).toArray⟩
theorem tl(s:ByteArray)(t:Nat)(a:ByteArray)(b:(Ln.rows s.data.toList).drop t=Ln.rows a.data.toList)(d:a.size≠0):t < (Ln.rows s.data.toList).length:=by
 by_cases c:t < (Ln.rows s.data.toList).length
 ·exact c
 ·rw[List.drop_eq_nil_of_le (by omega)]at b
  exact absurd b.symm (Ln.me _ (by intro e;have:=ap a;rw[e]at this;simp at this;omega))
theorem ov(s:ByteArray)(cc:s.size<=1000000)(l c:Nat)(g:Nat->World->Prop)(X:World->Prop)
(ab:∀t d f,g t d->Far (·=c) d f->g t f)
(v:∀t,t < (Ln.rows s.data.toList).length->∀d,g t d->YieldAt Fence.wide 3 π l #[V I ((t:Int)+1),γ #[U (zr s t)]] d λe f=>(e=ρ (β true)/\g (t+1) f/\RS c d f)\/(e=ρ (β false)/\X f))
(d:World)(a6:d.heap[c]? =W (J #[U s] 9 (0,0)))(ba:c≠5)(m:Int)(q:Obj)(bs:d.heap[5]? =W q)(ad:∀wx:World,wx.heap[5]? =W q->wx.cell? ⟨5,0,O⟩=W (V I m))(b2:g 0 d):
 Calls π 99 #[φ (.yield l) #[] #[],Z (W ⟨c,0,O⟩)] d λe f=>e=ρ (.tuple #[])/\(g (Ln.rows s.data.toList).length f\/X f):=by
 obtain⟨j,S⟩:∃j,(Ln.rows s.data.toList).length=j:=⟨_,rfl⟩;obtain⟨a0,b6,bx,D⟩:=zx4 ab ad v S;rw[S];clear ab v S ad;have co:j<=1000000:=by
  have:=Ln.dD s.data.toList;rw[D.out,ap]at this;omega
 go_enter func99,ntmps99
 go_wp2_with fail
 go_step3
 go_wp2_with fail
 go_step3
 go_wp2_with fail
 go_loopw [3,4,5,6] (λa _ _ _ wr=>∃(t:Nat) (b:ByteArray),a=V I ((t:Int)+1)/\wr.heap[c]? =W (J #[U b] 9 (0,0))/\(Ln.rows s.data.toList).drop t=Ln.rows b.data.toList/\b.size<=s.size/\t<=j/\wr.heap[5]? =W q/\g t wr) (λa _ _ _ _=>j+1 - (Lib.intOf a).toNat)
 case atStart=>exact⟨0,s,rfl,a6,rfl,η _,z_ _,bs,b2⟩
 case round=>
  obtain⟨t,b,rfl,N,i,cb,ch,P,L⟩:=hrel;have bR:=zF N 0 rfl;by_cases bk:b.size=0
  ·have M:b.toList.isEmpty=true:=by
    rw[ByteArray.toList_eq];have:=ap b;cases b0:b.data.toList with
    |nil=>rfl
    |cons x u=>rw[b0]at this;simp at this;omega
   have r:b.data.toList=[]:=by rw[ByteArray.toList_eq]at M;simpa using M
   have bb:t=j:=by
    rw[r]at i;have e:=congrArg List.length i;rw[zZ,D.out]at e;simp only[Ln.rows,List.length_nil]at e;omega
   subst bb
   go_wp2_with fail
   rw[Exit.noGoto_normal]
   go_end0
   exact⟨rfl,.inl L⟩
  ·have r:b.data.toList≠[]:=by intro e;have:=ap b;rw[e]at this;simp at this;omega
   have M:b.toList.isEmpty=false:=by rw[ByteArray.toList_eq];simpa using r
   have hcut:=λw ao=>strings_Cut b ⟨#[10]⟩ m w (by omega) ao;have C:=Ln.nz b.data.toList r;have a1:=Ln.um b.data.toList r;have a2:=tl s t b i bk;rw[D.out]at a2;change ∀w ao,Calls π 100 #[U b,U ⟨#[10]⟩] w λe w'=>e=ρ (.tuple #[U ⟨(Lib.cut b.data.toList [10]).1.toArray⟩,U ⟨(Lib.cut b.data.toList [10]).2.1.toArray⟩,β (Lib.cut b.data.toList [10]).2.2])/\∃n,w'=w.drewN n at hcut
   obtain⟨o,G⟩:∃o:ByteArray,(⟨(Lib.cut b.data.toList [10]).1.toArray⟩:ByteArray)=o:=⟨_,rfl⟩;obtain⟨y,R⟩:∃o:ByteArray,(⟨(Lib.cut b.data.toList [10]).2.1.toArray⟩:ByteArray)=o:=⟨_,rfl⟩;have T:(Lib.cut b.data.toList [10]).2.1=y.data.toList:=by rw[<-R]
   have ac:(Lib.cut b.data.toList [10]).1=o.data.toList:=by rw[<-G]
   simp only[G,R]at hcut;rw[T]at a1 C;rw[ac]at C;generalize (Lib.cut b.data.toList [10]).2.2=k at hcut;rw[C]at i;have av:zr s t=o:=by
    unfold zr;have e:=congrArg (λx=>x[0]?) i;simp only[List.getElem?_drop,Nat.add_zero,List.getElem?_cons_zero]at e;rw[zY,e];rfl
   have a5:(Ln.rows s.data.toList).drop (t+1)=Ln.rows y.data.toList:=by
    have e:=congrArg List.tail i
    simpa [List.tail_drop]using e
   rw[ap,ap]at a1;obtain⟨bD,bw,a9⟩:=zx3 hcut av a5;clear hcut av a5 i C T ac G R r
   go_wp2_with fail
   refine(bD.out wr (b6.out wr P)).mono ?_;rintro e E ⟨rfl,n,A⟩;have al:Far (·=c) wr E:=by rw[A];exact(ξ _ _).drewN n
   have b1:=a0.out t _ _ L al;have b9:E.heap[c]? =W (J #[U b] 9 (0,0)):=by rw[A];exact N
   have b5:E.heap[5]? =W q:=by rw[A];exact P
   clear A al L P bR N
   go_upto_region 4 with (fail)
   refine(wpIn_wide (n:=4)).1 ?_;have v:=bx.out t (by rw[D.out];exact a2) E b1;rw[bw.out]at v;obtain⟨cm,ck,assign,body,ca,a4⟩:=v;have b4:=zD a4;clear a4
   gi_wp2
   refine(b4.out).mono ?_;rintro e z (⟨rfl,a3,H⟩|⟨rfl,bm⟩)
   ·have F:z.heap[c]? =W (J #[U b] 9 (0,0)):=H.2 c _ (.inl rfl) b9
    have b3:z.heap[5]? =W q:=H.2 5 _ (.inr rfl) b5;have c3:=zF F 0 rfl;have cf:=ag F 0;have be:(z.setCell ⟨c,0,O⟩ (U y)).heap[5]? =W q:=(Below.heap_setCell _ _ _ _ (by show 5≠c;exact λe=>ba e.symm)).trans b3;have an:=a0.out (t+1) _ _ a3 ((ξ (·=c) z).setCell (p:=⟨c,0,O⟩) (λ_=>rfl) (U y));have cl:IntKind.i64.wrap ((t:Int)+1+1)=(t:Int)+1+1:=zU _ (by omega);obtain⟨b8,bn⟩:=zx2 an F;clear an a3 H F
    gi_wp2
    go_wp2_with fail
    go_roundw
    case rel=>exact⟨t+1,y,by simp,ai bn.out 0 _,a9.out,by omega,by omega,be,b8.out⟩
    case measure=>
     simp[Lib.intOf]
     omega
   ·gi_wp2
    go_wp2_with fail
    rw[Exit.noGoto_normal]
    go_end0
    exact⟨rfl,.inr bm⟩
theorem ui(args:Array Value)(w:World):(callFunc 99 args).run π w=.ok (.enter 99 args) w:=by kernel_rfl
theorem tn(s:ByteArray)(w:World):Calls π 70 #[U s] w λe w'=>e=ρ (φ (.func 99) #[] #[Z (W ⟨w.heap.size,0,O⟩)])/\w'=w.alloc (J #[U s] 9):=by
 go_enter func70,ntmps70
 go_wp2
 go_ret
 exact⟨rfl,rfl⟩
theorem qs(s:ByteArray)(v:s.size<=1000000)(b:Nat)(w:World)(f:w.heap[b]? =W (J #[U s] 9 (0,0)))(k:b≠5)(m:Int)(y:w.cell? ⟨5,0,O⟩=W (V I m))(g:5 < w.heap.size):
 AZ true π 99 #[Z (W ⟨b,0,O⟩)] 3 (Ln.rows s.data.toList).length (λt=>#[V I ((t:Int)+1),γ #[U (zr s t)]]) (Far (·=b)) (RS b) (λ_=>True) w:=by
 intro l r n p d A u C _ q j;obtain⟨z,i⟩:∃o,w.heap[5]? =W o:=⟨_,Array.getElem?_eq_getElem g⟩;refine(ov s v l b r n u q p ((d.block _ (lt_of_heap f)).trans f) k m z ((d.block _ g).trans i) (λwx x=>(World.cell?_of_block (w:=w) (a:=⟨5,0,O⟩) (x.trans i.symm)).trans y) j).mono ?_;rintro e D ⟨rfl,c⟩;refine⟨⟨_,rfl⟩,?_⟩;rcases c with c|c
 ·exact .inl ⟨c,trivial⟩
 ·exact .inr c
end
section
attribute [local go_sem ↓] Go.wp_at_zero Go.wp_at_succ
attribute [local go_sem] ak
theorem vJ{D:NS}{a b:World}(c:Below a.heap.size a b):Far D a b:=(ξ _ a).below c
theorem wT(s:ByteArray)(d:∀a∈s.data.toList,a.toNat < 128)(i:Nat)(a:UInt8)(c:s.data.toList[i]? =W a):Utf8.decode s i=(a.toNat,1):=by
 rw[aX];obtain⟨b,rfl⟩:=zM.1 c;rw[zW b];exact Ln.aM _ _ (d _ (List.getElem_mem b))
theorem ix(w:World)(k:Nat)(s:ByteArray)(q:Nat):Far (·=k) w (w.iterAt k s q):=by
 refine⟨rfl,rfl,rfl,by rw[Lib.iterAt_size];exact η _,λi b a=>?_⟩;simp only[World.iterAt];rw[Array.getElem?_setIfInBounds_ne (λe=>a e.symm)]
def AQ(s:ByteArray)(t:Nat)(v:Array Value)(c:NS)(_:World):Prop:=(∃(b:UInt8) (a d:Int),s.data.toList[t]? =W b/\v=#[V .i32 (b.toNat:Int),γ #[V .i32 a,V .i32 d]])/\c=xO
theorem qK(s:ByteArray)(w:World):Calls π 307 #[U s] w λe w'=>e=ρ (φ (.func 320) #[] #[Z (W ⟨w.heap.size,0,O⟩)])/\w'=w.alloc (J #[U s] 9):=by
 go_enter func307,ntmps307
 go_wp2
 go_ret
 exact⟨rfl,rfl⟩
theorem rW(args:Array Value)(w:World):(callFunc 320 args).run π w=.ok (.enter 320 args) w:=by kernel_rfl
theorem oM(s:ByteArray)(dp:s.size<=100000)(cl:∀i∈s.data.toList,i.toNat < 128)(b2:s.size≠0)(f:Nat)(w:World)(y:w.heap[f]? =W (.cells #[U s] 9 (0,0))):
 yQ π 320 #[Z (W ⟨f,0,O⟩)] 3 s.size (AQ s) (·=f) xO True (λ_ _=>True) (λ_=>True) w:=by
 intro l J da C g be b3 hF0 X a0 bx bb an
 replace y:=(be.block _ (lt_of_heap y)).trans y
 obtain⟨base,a9⟩:∃b8,w.heap.size=b8:=⟨_,rfl⟩;rw[a9]at X a0;have bw:∀k,C k->k≠g.heap.size/\k≠f:=λk b=>⟨λe=>by have:=(bx 0 C g an).2 trivial k b;omega,(hF0 k b).1⟩;have c4:base<=g.heap.size:=by omega
 have c6:∀dv:World,True:=λ_=>trivial;have ds:s.toList.isEmpty=false:=by
  rw[ByteArray.toList_eq];have:=ap s;cases ct:s.data.toList with
  |nil=>rw[ct]at this;simp at this;omega
  |cons x u=>rfl
 obtain⟨bs,cv,bm,a5,ao⟩:=zx5 X a0 bb bw y;have S:=zF y 0 rfl;clear X a0 bb bw y bx hF0 be b3 a9 c6
 go_enter func320,ntmps320
 go_wp2_with fail
 go_step3
 go_wp2_with fail
 go_step3
 go_wp2_with fail
 obtain⟨d,H⟩:∃d,g.heap.size=d:=⟨_,rfl⟩;have c3:Far (y8 (·=f) C base) g (g.iter s 0):=(ξ _ g).alloc _;have co:(g.iter s 0).heap[d]? =W (.stringIter s 0):=by rw[<-H];exact World.iter_heap g s 0
 have b4:=bs.out 0 C _ _ an c3;have b6:(g.iter s 0).heap[f]? =W (.cells #[U s] 9 (0,0)):=aa _ ao.out;have db:f < d:=by rw[<-H];exact lt_of_heap ao.out
 rw[H]at a5 c4;rw[H];clear an H ao S
 go_loopw [3,4,5,6] (λca one _ _ wr=>∃(c:Nat) (m:NS),wr.heap[d]? =W (.stringIter s c)/\c<=s.size/\(∃i a:Int,(c=0\/s.data.toList[c - 1]?.map (λx=>(x.toNat:Int))=W i)/\one=V .i32 i/\ca=V .i32 a)/\J (c - 1) m wr/\(∀k,m k->k≠d/\k≠f)/\wr.heap[f]? =W (.cells #[U s] 9 (0,0))) (λ_ _ _ _ wr=>s.size - wr.iterPos d)
 case atStart=>exact⟨0,C,co,z_ _,⟨0,0,.inl rfl,rfl,rfl⟩,b4,a5.out,b6⟩
 case round=>
  obtain⟨c,m,A,dr,⟨S,R,P,rfl,rfl⟩,G,ba,a3⟩:=hrel;obtain⟨r,b0,E⟩:=zx3 ba a3 A;clear ba a3;have bD:wr.iterPos d=c:=by simp[World.iterPos,A]
  by_cases a1:c < s.size
  ·have al:∀t,(Instr.next (Z (W ⟨d,0,O⟩)) true t).run π wr=_:=λt=>Lib.run_next_any_at wr d s c t A a1
   have b9:c < s.data.toList.length:=by rw[ap];exact a1
   obtain⟨i,ac⟩:∃i,s.data.toList[c]? =W i:=⟨_,zE b9⟩;rw[wT s cl c i ac]at al;simp only at al;have N:=bL wr d s s c (c+1) E.out;have c9:Far (y8 (·=f) m base) wr (wr.iterAt d s (c+1)):=(ix wr d s (c+1)).mono (λk _ e=>⟨λb=>(r.out k b).1 e,.inr (by omega)⟩);have bn:=bs.out _ m _ _ G c9;have a2:=(ix wr d s (c+1)).heap b0.out (by omega);by_cases bR:c=0
   ·subst bR
    clear G A E
    go_wp2_with fail
    go_roundw
    case rel=>exact⟨1,m,N,by omega,⟨_,_,.inr (by rw[show 1 - 1=0 from rfl,ac];rfl),rfl,rfl⟩,bn,r.out,a2⟩
    case measure=>rw[bD,show (wr.iterAt d s 1).iterPos d=1 by simp[World.iterPos,N]];omega
   ·have d0:0 < c:=by omega
    have ch:c - 1+1=c:=by omega
    have b5:c - 1 < s.size:=by omega
    have D:AQ s (c - 1) #[V .i32 S,γ #[V .i32 R,V .i32 (i.toNat:Int)]] xO (wr.iterAt d s (c+1)):=by
     rcases P with b|b
     ·exact absurd b bR
     ·obtain⟨x,o,rfl⟩:=zN.1 b
      exact⟨⟨x,R,_,o,rfl⟩,rfl⟩
    have j:=bm.out (c - 1) b5 m xO _ _ bn D (λ_ b=>b.elim);rw[ch]at j;obtain⟨ad,ab⟩:=zx2 j N;clear j D G A E N P
    go_upto_region 4 with (fail)
    refine(wpIn_wide (n:=4)).1 ?_;generalize hW1:wr.iterAt d s (c+1)=d2 at *;obtain⟨c5,cf,assign,body,j,L⟩:=ad.out;have av:=zD L;clear L
    gi_wp2
    refine(av.out).mono ?_;rintro e M ⟨q,⟨z,F⟩,(⟨rfl,T⟩|⟨rfl,o⟩)⟩
    ·have b1:=z.heap ab.out (λb=>(r.out _ b).1 rfl)
     have v:=z.heap a2 (λb=>(r.out _ b).2 rfl);have a6:∀k,q k->k≠d/\k≠f:=by
      intro k b;rcases F k b with b|b|b
      ·exact r.out k b
      ·exact b.elim
      ·have:=lt_of_heap ab.out
       omega
     obtain⟨cc,bk,cb,c2⟩:=zx4 a6 b1 v T;clear T z F a6 b1 v
     gi_wp2
     go_wp2_with fail
     go_roundw
     case rel=>exact⟨c+1,q,bk.out,by omega,⟨_,_,.inr (by rw[show c+1 - 1=c by omega,ac];rfl),rfl,rfl⟩,c2.out,cc.out,cb.out⟩
     case measure=>rw[bD,show M.iterPos d=c+1 by simp[World.iterPos,bk.out]];omega
    ·have v:=z.heap a2 (λb=>(r.out _ b).2 rfl)
     have c0:¬q f:=by
      intro b;rcases F _ b with b|b|b
      ·exact(r.out _ b).2 rfl
      ·exact b.elim
      ·have:=lt_of_heap ab.out
       omega
     have a4:=cv.out q _ _ o ((ξ _ M).setCell (p:=⟨f,0,O⟩) (λ_=>⟨c0,.inl rfl⟩) (U ⟨#[]⟩));have dc:=zF v 0 rfl;have df:=ag v 0;have dn:(M.setCell ⟨f,0,O⟩ (U ⟨#[]⟩)).cell? ⟨f,0,O⟩=W (U ⟨#[]⟩):=ae (ai v 0 _) 0;have cm:=zD a4;clear o a4 z F v
     gi_wp2
     go_wp2_with fail
     rw[Exit.noGoto_normal]
     go_end0
     exact⟨⟨_,rfl⟩,.inr ⟨q,cm.out⟩⟩
  ·have al:∀t,(Instr.next (Z (W ⟨d,0,O⟩)) true t).run π wr=_:=λt=>Lib.run_next_end_at wr d s c t E.out a1
   have c1:c=s.size:=by omega
   subst c1;have d1:=zF b0.out 0 rfl;have D:AQ s (s.size - 1) #[V .i32 S,γ #[V .i32 R,V .i32 0]] xO wr:=by
    rcases P with b|b
    ·exact absurd b b2
    ·obtain⟨x,o,rfl⟩:=zN.1 b
     exact⟨⟨x,R,_,o,rfl⟩,rfl⟩
   have j:=bm.out (s.size - 1) (by omega) m xO _ _ G D (λ_ b=>b.elim);rw[show s.size - 1+1=s.size by omega]at j;have ad:=zD j;clear j D G A E P
   go_upto_region 8 with (fail)
   refine(wpIn_wide (n:=4)).1 ?_;obtain⟨c5,cf,assign,body,j,L⟩:=ad.out;have av:=zD L;clear L
   gi_wp2
   refine(av.out).mono ?_;rintro e M ⟨q,⟨z,F⟩,(⟨rfl,T⟩|⟨rfl,o⟩)⟩
   ·gi_wp2
    go_wp2_with fail
    rw[Exit.noGoto_normal]
    go_end0
    exact⟨⟨_,rfl⟩,.inl ⟨q,T,trivial⟩⟩
   ·gi_wp2
    go_wp2_with fail
    rw[Exit.noGoto_normal]
    go_end0
    exact⟨⟨_,rfl⟩,.inr ⟨q,o⟩⟩
end
section
attribute [local go_sem] ak
attribute [local go_sem] Oper.semAt_some
theorem rg(c:Bool)(a:Int)(b:Nat)(j:0<=a)(i:a < 128)(g:decide (0<=Lib.indexByte [44,91,93,123,125] a.toNat.toUInt8)=false)(w:World)(d:w.heap[b]? =W (J #[β c] 4 (0,0))):
 Calls π 306 #[V .i32 a,Z (W ⟨b,0,O⟩)] w λe w'=>e=ρ (β false)/\w'=w:=by
 have f:=λk=>strings_ContainsRune_ascii ⟨#[44,91,93,123,125]⟩ a k j i;rw[show (⟨#[44,91,93,123,125]⟩:ByteArray).data.toList=[44,91,93,123,125]from rfl,g]at f;have m:=zF d 0 rfl;clear g d;cases c with
 |true=>
  go_enter func306,ntmps306
  go_wp2_with fail
  refine(f _).mono ?_;rintro e l ⟨rfl,rfl⟩
  go_wp2_with fail
  go_ret
  exact⟨rfl,rfl⟩
 |false=>
  go_enter func306,ntmps306
  go_wp2_with fail
  go_ret
  exact⟨rfl,rfl⟩
theorem a8(a:UInt8)(b:Tp.plainC a=true):a.toNat < 128/\32 < a.toNat/\a.toNat≠127/\a.toNat≠58/\a.toNat≠35/\decide (0<=Lib.indexByte [44,91,93,123,125] ((a.toNat:Int)).toNat.toUInt8)=false/\
 decide (0<=Lib.indexByte [44,91,93,123,125,35,38,42,33,124,62,39,34,37,64,96] ((a.toNat:Int)).toNat.toUInt8)=false:=by
 have c:∀n:Fin 256,Tp.plainC (UInt8.ofNat n.val)=true->(UInt8.ofNat n.val).toNat < 128/\32 < (UInt8.ofNat n.val).toNat/\(UInt8.ofNat n.val).toNat≠127/\(UInt8.ofNat n.val).toNat≠58/\(UInt8.ofNat n.val).toNat≠35/\decide (0<=Lib.indexByte [44,91,93,123,125] (((UInt8.ofNat n.val).toNat:Int)).toNat.toUInt8)=false/\
  decide (0<=Lib.indexByte [44,91,93,123,125,35,38,42,33,124,62,39,34,37,64,96] (((UInt8.ofNat n.val).toNat:Int)).toNat.toUInt8)=false:=by decide+kernel
 have:=c ⟨a.toNat,a.toNat_lt⟩;simp only[UInt8.ofNat_toNat]at this;exact this b
def LI(w:World)(d:Bool)(b t:Nat)(c:NS)(a:World):Prop:=
 c=xO/\t<=b/\a.heap[w.heap.size]? =W (J #[β d] 4 (0,0))/\a.heap[w.heap.size+1]? =W (J #[β false] 4 (0,0))/\a.heap[w.heap.size+1+1]? =W (J #[φ (.func 306) #[] #[Z (W ⟨w.heap.size,0,O⟩)]] 49 (0,0))/\Below w.heap.size w a
theorem LI.far{w:World}{g:Bool}{d t:Nat}{f D:NS}{c l:World}(r:LI w g d t f c)(b:Far D c l)(a:∀k,D k->w.heap.size+2 < k):LI w g d t f l:=by
 obtain⟨o,m,q,n,p,j⟩:=r;exact⟨o,m,b.heap q (λe=>by have:=a _ e;omega),b.heap n (λe=>by have:=a _ e;omega),b.heap p (λe=>by have:=a _ e;omega),j.trans (b.to_below j.size (λi s e=>by have:=a _ e;omega))⟩
theorem pf(s:ByteArray)(d:Bool)(T:s.size<=100000)(F:∀b∈s.data.toList,Tp.plainC b=true)(H:s.size≠0)(w:World):
 Calls π 290 #[U s,β d] w λe w'=>e=ρ (β true)/\Below w.heap.size w w':=by
 have R:=λa1 j c=>oM s T (λb u=>(a8 b (F b u)).1) H a1 j c;obtain⟨p,cm⟩:∃p,s.size=p:=⟨_,rfl⟩;obtain⟨a6,ao⟩:=zx2 R F;clear R F T H;refine callsIn_wide.1 (callsIn_of_wp_marks (n:=5) func290 rfl trivial (wpIn_wide.2 ?_));simp only[ntmps290,List.size_toArray,zO,List.length_nil,Nat.reduceAdd,Nat.reduceSub,Array.replicate_succ,Array.replicate_zero,List.push_toArray,List.append_toArray,List.nil_append,List.cons_append]
 go_wp2_with fail
 refine(qK s _).mono ?_;rintro e z ⟨rfl,x⟩;have ad:z.heap.size=w.heap.size+4:=by rw[x];simp
 have G:z.heap[w.heap.size+3]? =W (J #[U s] 9 (0,0)):=by rw[x];exact ah _ _ _ (by simp)
 have S:LI w d p 0 xO z:=by
  have bx:(((w.alloc (J #[β d] 4)).alloc (J #[β false] 4)).alloc (J #[φ (.func 306) #[] #[Z (W ⟨w.heap.size,0,O⟩)]] 49)).heap[w.heap.size]? =W (J #[β d] 4 (0,0)):=aa _ (aa _ (ah _ _ _ rfl));have bw:(((w.alloc (J #[β d] 4)).alloc (J #[β false] 4)).alloc (J #[φ (.func 306) #[] #[Z (W ⟨w.heap.size,0,O⟩)]] 49)).heap[w.heap.size+1]? =W (J #[β false] 4 (0,0)):=aa _ (ah _ _ _ (by simp));have a0:(((w.alloc (J #[β d] 4)).alloc (J #[β false] 4)).alloc (J #[φ (.func 306) #[] #[Z (W ⟨w.heap.size,0,O⟩)]] 49)).heap[w.heap.size+1+1]? =W (J #[φ (.func 306) #[] #[Z (W ⟨w.heap.size,0,O⟩)]] 49 (0,0)):=ah _ _ _ (by simp);have ab:Below w.heap.size w (((w.alloc (J #[β d] 4)).alloc (J #[β false] 4)).alloc (J #[φ (.func 306) #[] #[Z (W ⟨w.heap.size,0,O⟩)]] 49)):=((((ζ _ _).alloc (η _) _).alloc (by simp) _).alloc (by simp;omega) _);rw[x];exact⟨rfl,z_ _,aa _ bx,aa _ bw,aa _ a0,ab.alloc ab.size _⟩
 obtain⟨bR,C,an⟩:=zx3 S ad G;clear x ad G S
 go_wp2_with fail
 refine wpIn_wide.1 (aC (n:=5) (gf:=320) (lb:=#[Z (W ⟨w.heap.size+3,0,O⟩)]) rfl (λargs wx=>rW args wx)
  (a6.out (w.heap.size+3) z an.out) (λk e=>by have:=lt_of_heap an.out;omega) (λk e=>e.elim) (λt v a2 j c=>by obtain⟨⟨b,a,o,_,rfl⟩,_⟩:=c;rfl)
  (LI w d p) (λ_ _ _=>False) xO (λk c=>c.elim) bR.out ?hI (λ_ _ _ _ c _=>c) (λ_ _ _ _=>trivial) (λ_ _ _ _=>trivial) ?round ?done (λ_ _ _ c=>c.elim))
 case hI=>
  intro t N j ac c a5;exact c.far a5 (λk e=>by have:=C.out;rcases e.2 with c|c<;>omega)
 case round=>
  rintro t N a2 v j K b1 b6 ⟨rfl,bb,y,f,r,g⟩ ⟨⟨b,a,o,u,rfl⟩,rfl⟩ b4 a4 m;have av:=a8 b (ao.out b (zL u))
  gi_wp2
  refine m _ _ ((ξ _ j).alloc _) ?_;intro E l _ _;rw[C.out]at l;have D:=l.heap (aa (J #[V .i32 a,V .i32 o] 479) y) (by omega);have al:=l.heap (aa (J #[V .i32 a,V .i32 o] 479) f) (by omega);have A:=l.heap (aa (J #[V .i32 a,V .i32 o] 479) r) (by omega);have X:Below w.heap.size w E:=(g.alloc g.size (J #[V .i32 a,V .i32 o] 479)).trans (l.to_below (by have:=g.size;simp;omega) (λi bs e=>by omega));obtain⟨co,cc,cf,cb,ck,be,_⟩:=av;have b3:¬((b.toNat:Int) < 32):=by omega
  have ba:¬((b.toNat:Int)=127):=by omega
  have bk:¬((b.toNat:Int)=58):=by omega
  have bn:¬((b.toNat:Int)=35):=by omega
  have b8:((b.toNat:Int)==127)=false:=by simpa using ba
  have cl:((b.toNat:Int)==58)=false:=by simpa using bk
  have b2:((b.toNat:Int)==35)=false:=by simpa using bn
  have P:=rg d (b.toNat:Int) w.heap.size (by omega) (by omega) be E D;generalize (b.toNat:Int)=ca at *;have c5:=zF A 0 rfl;have bD:=zD P;have bm:RowKit.Hid (LI w d p (t+1) xO E):=zD ⟨rfl,by omega,D,al,A,X⟩;clear y f r g D al A X l P u m
  gi_wp2_with fail
  refine⟨trivial,(CallsIn.inRound _ (callsIn_wide.2 bD.out)).mono ?_⟩;rintro e b9 ⟨rfl,rfl⟩
  gi_wp2_with fail
  refine⟨trivial,?_⟩
  gi_wp2_with fail
  exact⟨xO,bm.out,ξ _ _,λ_ c=>c.elim⟩
 case done=>
  rintro N j ⟨rfl,bb,y,f,r,g⟩ _ m a4;rw[C.out]at m ⊢;have b5:=ag f 0;have ch:=zF f 0 rfl;obtain⟨b0,L,a9⟩:=zx3 f g m;clear y f r g m
  go_wp2_with fail
  refine au (q:=w.heap.size+4) rfl ((Below.heap_setCell _ _ _ _ (by show w.heap.size+4≠w.heap.size+1;omega)).trans a9.out) ?_;intro ac M;have a3:ac.cell? ⟨w.heap.size+1,0,O⟩=W (β true):=ae (M.heap (ai b0.out 0 _) (by omega)) 0;refine⟨β true,by simp[results,results290,go_sem,a3],rfl,?_⟩;exact(L.out.setCell (by show w.heap.size<=w.heap.size+1;omega) _).trans (M.to_below (by simp[World.setCell];exact L.out.size) (λi bs e=>by omega))
end
def atR(s:ByteArray)(i:Nat):Int:=if i < s.size then ((Ln.dec (s.data.toList.drop i)).1:Int)else 65533
def rdV(s:ByteArray)(q:Int):Value:=γ #[U s,V .i32 q]
theorem dZ(s:ByteArray)(q:Int)(i:Nat)(z:i<=1000000)(y:s.size<=1000000)(w:World)(r:Glob w):
 Calls π 328 #[rdV s q,V I (i:Int)] w λe w'=>e=ρ (V .i32 (atR s i))/\Below w.heap.size w w':=by
 have f:=(ζ w.heap.size w).alloc (η _) (J #[U s,V .i32 q] 466);have d:=λt=>utf8_DecodeRuneInString t _ (r.step f).2.1;unfold rdV atR;have c:=zD f;clear f r;by_cases m:i < s.size
 ·have x:min (i:Int) (s.size:Int)=(i:Int):=by omega
  have b:(s.extract i s.size).size≠0:=by rw[ByteArray.size_extract];omega
  have l:(s.extract i s.size).data.toList=s.data.toList.drop i:=by
   rw[ByteArray.data_extract,Array.toList_extract,List.extract_eq_take_drop];exact zR (by simp only[zZ,Array.length_toList];exact η _)
  have k:=eL (s.extract i s.size) b;rw[l]at k;have a:=d (s.extract i s.size);rw[k]at a;rw[if_pos m];obtain⟨o,p⟩:∃o:Int,((Ln.dec (s.data.toList.drop i)).1:Int)=o:=⟨_,rfl⟩;obtain⟨n,u⟩:∃n:Int,((Ln.dec (s.data.toList.drop i)).2:Int)=n:=⟨_,rfl⟩;rw[p]at a ⊢;rw[u]at a;have g:=zD a;clear d a k l b p u
  go_enter func328,ntmps328
  go_wp2_with fail
  refine g.out.mono ?_;rintro e v ⟨rfl,j⟩
  go_wp2_with fail
  go_ret
  exact⟨rfl,c.out.trans (j.mono c.out.size)⟩
 ·have x:min (i:Int) (s.size:Int)=(s.size:Int):=by omega
  have b:(ByteArray.empty).size=0:=rfl;have a:=d ByteArray.empty;unfold Lib.decodeGo at a;rw[if_pos b]at a;rw[if_neg m];have g:=zD a;clear d a b
  go_enter func328,ntmps328
  go_wp2_with fail
  refine g.out.mono ?_;rintro e v ⟨rfl,j⟩
  go_wp2_with fail
  go_ret
  exact⟨rfl,c.out.trans (j.mono c.out.size)⟩
theorem io(s:ByteArray)(F:s.size<=1000000)(j:Tp.isName s.data.toList=true)(w:World):Calls π 211 #[U s] w λe w'=>e=ρ (β true)/\Below w.heap.size w w':=by
 unfold Tp.isName at j;simp only[zQ,decide_eq_true_eq,List.all_eq_true,Bool.not_eq_true']at j;obtain⟨⟨n,d⟩,y⟩:=j;rw[ap]at y;have G:(s.toList==[])=false:=by rw[ByteArray.toList_eq];cases z:s.data.toList with|nil=>rw[z]at d;simp at d|cons _ _=>rfl
 have E:s.toList.isEmpty=false:=by rw[ByteArray.toList_eq];exact d
 have u:¬s.toList=[]:=by rw[ByteArray.toList_eq];intro e;rw[e]at d;simp at d
 have v:=zD n;clear n
 go_enter func211,ntmps211
 go_wp2_with fail
 go_loopw [2,4,7] (λ_ _ _ wr=>∃a:Nat,wr.heap[w.heap.size]? =W (.stringIter s a)/\a<=s.size/\Below w.heap.size w wr) (λ_ _ _ wr=>s.size - wr.iterPos w.heap.size)
 case atStart=>exact⟨0,World.iter_heap w s 0,z_ _,(ζ _ _).alloc (η _) _⟩
 case round=>
  obtain⟨a,f,H,g⟩:=hrel;have x:wr.iterPos w.heap.size=a:=by simp[World.iterPos,f]
  by_cases i:a < s.size
  ·have o:∀b,(Instr.next (Z (W ⟨w.heap.size,0,O⟩)) true b).run π wr=_:=λb=>Lib.run_next_any_at wr w.heap.size s a b f i
   have c:a < s.data.toList.length:=by rw[ap];exact i
   have k:=v.out _ (List.getElem_mem c);have p:(s.data.toList[a]'c).toNat < 128:=by
    simp only[Tp.signC,Bool.or_eq_true,zQ,decide_eq_true_eq,beq_iff_eq]at k;omega
   rw[aX,zW c,Ln.aM _ _ p]at o;have m:Aa ((s.data.toList[a]'c).toNat:Int)=true:=by
    simp only[Tp.signC,Bool.or_eq_true,zQ,decide_eq_true_eq,beq_iff_eq]at k;simp only[Aa,Bool.or_eq_true,zQ,decide_eq_true_eq];omega
   have q:=λr=>jO ((s.data.toList[a]'c).toNat:Int) r;rw[m]at q;generalize ((s.data.toList[a]'c).toNat:Int)=D at *;have A:Below w.heap.size w (wr.iterAt w.heap.size s (a+1)):=g.trans (bu _ _ _ _ _ (η _));have l:=bL wr w.heap.size s s a (a+1) f;clear g f k p m
   go_wp2_with fail
   refine(q _).mono ?_;rintro e C ⟨rfl,rfl⟩
   go_wp2_with fail
   go_roundw
   case rel=>exact⟨a+1,l,by omega,A⟩
   case measure=>rw[show (wr.iterAt w.heap.size s (a+1)).iterPos w.heap.size=a+1 by simp[World.iterPos,l],x];omega
  ·have o:∀b,(Instr.next (Z (W ⟨w.heap.size,0,O⟩)) true b).run π wr=_:=λb=>Lib.run_next_end_at wr w.heap.size s a b f i
   have t:(s.size:Int)<=20:=by omega
   go_wp2_with fail
   go_ret
   exact⟨by simp[t,u],g⟩
theorem iI(x:Int)(b:0<=x)(a:x<=255):IntKind.u8.wrap x=x:=by simp[IntKind.wrap,IntKind.bits,IntKind.signed];omega
theorem eQ(x:Int)(b:0<=x)(a:x<=18446744073709551615):IntKind.u64.wrap x=x:=by simp[IntKind.wrap,IntKind.bits,IntKind.signed];omega
theorem c7(a:UInt8)(x:Nat)(b:Tp.unhexD a=W x):(48<=a.toNat/\a.toNat<=57/\x=a.toNat - 48)\/(97<=a.toNat/\a.toNat<=102/\x=a.toNat - 87):=by
 unfold Tp.unhexD at b;split at b
 ·left;simp only[Option.some.injEq]at b;omega
 ·split at b
  ·right;simp only[Option.some.injEq]at b;omega
  ·simp at b
theorem rf(B:Int)(b:97<=B/\B<=102)(w:World):Calls π 343 #[V .u8 B] w λe w'=>e=ρ (V .u8 B)/\w'=w:=by
 have a:bits BinOp.or IntKind.u8 B 32=B:=by
  have:B=97\/B=98\/B=99\/B=100\/B=101\/B=102:=by omega
  rcases this with rfl|rfl|rfl|rfl|rfl|rfl<;>rfl
 go_enter func343,ntmps343
 go_wp2
 go_ret
 exact⟨by simp[a],rfl⟩
theorem mP(a b:UInt8)(w:World):∃cap c,(∀d,d=9->(convert d 36 (U ⟨#[a,b]⟩)).run π w=.ok (Y (W ⟨w.heap.size,0,O⟩) 2 cap) c)/\c.cell? ⟨w.heap.size,0,O⟩=W (V .u8 (a.toNat:Int))/\c.cell? ⟨w.heap.size,1,O⟩=W (V .u8 (b.toNat:Int))/\Below w.heap.size w c:=by
 have g:=Lib.run_convert_string_bytes (P:=π) w 9 36 5 ⟨#[a,b]⟩ underlying9 underlying36 underlying5;have f:=Lib.bytesWorld_at_new w 5 ⟨#[a,b]⟩;refine⟨grownCap w 2 0 5,Lib.bytesWorld w 5 ⟨#[a,b]⟩,λd e=>by subst e;exact g,?_,?_,⟨rfl,rfl,rfl,?_,λi j=>Lib.bytesWorld_at_old w 5 _ i j⟩⟩
 ·rw[ae f 0,Lib.bytesCells,Array.getElem?_append_left (by simp)];simp
 ·rw[ae f 1,Lib.bytesCells,Array.getElem?_append_left (by simp)];simp
 ·exact Nat.le_of_lt (lt_of_heap f)
theorem wB(a g:UInt8)(x f:Nat)(r:Tp.unhexD a=W x)(p:Tp.unhexD g=W f)(G:x < 8)(w:World):
 Calls π 339 #[U ⟨#[a,g]⟩,V I 16,V I 32] w λe w'=>e=ρ (.tuple #[V .u64 ((16 * x+f:Nat):Int),.nilIface])/\Below w.heap.size w w':=by
 have A:=c7 a x r;have H:=c7 g f p;obtain⟨cap,av,t,z,C,j⟩:=mP a g w;have t:=t 9 rfl;have o:=zD j;obtain⟨d,u⟩:∃d:Int,((16 * x+f:Nat):Int)=d:=⟨_,rfl⟩;obtain⟨c,n⟩:∃c:Int,(a.toNat:Int)=c:=⟨_,rfl⟩;obtain⟨B,s⟩:∃B:Int,(g.toNat:Int)=B:=⟨_,rfl⟩;obtain⟨X,D⟩:∃X:Int,(x:Int)=X:=⟨_,rfl⟩;obtain⟨b,y⟩:∃b:Int,(f:Int)=b:=⟨_,rfl⟩;rw[n]at z;rw[s]at C;rw[u];have ba:48<=c:=by omega
 have bb:c<=57:=by omega
 have l:c - 48=X:=by omega
 have L:0<=X:=by omega
 have ab:X < 8:=by omega
 have a6:0<=b:=by omega
 have an:b<=15:=by omega
 have ao:IntKind.u8.wrap (c - 48)=X:=by rw[l];exact iI _ (by omega) (by omega)
 have a2:IntKind.u64.wrap X=X:=eQ _ (by omega) (by omega);have P:IntKind.u64.wrap b=b:=eQ _ (by omega) (by omega);have a4:IntKind.u64.wrap (X * 16)=X * 16:=eQ _ (by omega) (by omega);have m:X * 16+b=d:=by omega
 have be:IntKind.u64.wrap (X * 16+b)=d:=by rw[m];exact eQ _ (by omega) (by omega)
 have al:¬c=95:=by omega
 have ac:¬16<=X:=by omega
 have a5:¬16<=b:=by omega
 have ad:¬1152921504606846976<=X:=by omega
 have S:¬d < X * 16:=by omega
 have a1:¬d > 4294967295:=by omega
 have R:¬X < 0:=by omega
 have a9:¬X > 4294967295:=by omega
 have E:(48<=B/\B<=57/\b=B - 48)\/(97<=B/\B<=102/\b=B - 87):=by omega
 have a0:¬B=95:=by omega
 clear A H r p G n s D y u j l m;rcases E with ⟨k,q,i⟩|⟨k,q,i⟩
 ·have u1:IntKind.u8.wrap (B - 48)=b:=by rw[<-i];exact iI _ (by omega) (by omega)
  clear i
  go_enter func339,ntmps339
  go_wp2_with fail
  refine wp_loop_rounds 3 ?_;rw[rounds_succ]
  go_wp2_with fail
  rw[rounds_succ]
  go_wp2_with fail
  rw[rounds_succ]
  go_wp2_with fail
  go_ret2
  exact⟨rfl,o.out⟩
 ·have u1:IntKind.u8.wrap (B - 97)=B - 97:=iI _ (by omega) (by omega)
  have u2:IntKind.u8.wrap (B - 97+10)=b:=by rw[show B - 97+10=b by omega];exact iI _ (by omega) (by omega)
  have T:¬B<=57:=by omega
  have a3:B<=122:=by omega
  have N:48<=B:=by omega
  have F:=λv=>rf B ⟨k,q⟩ v;clear i
  go_enter func339,ntmps339
  go_wp2_with fail
  refine wp_loop_rounds 3 ?_;rw[rounds_succ]
  go_wp2_with fail
  rw[rounds_succ]
  go_wp2_with (go_at_call 343;refine(F _).mono ?_;rintro e M ⟨rfl,rfl⟩)
  rw[rounds_succ]
  go_wp2_with fail
  go_ret2
  exact⟨rfl,o.out⟩
theorem qF(a c:UInt8)(x b:Nat)(k:Tp.unhexD a=W x)(d:Tp.unhexD c=W b)(f:x < 8)(w:World):
 Calls π 342 #[U ⟨#[a,c]⟩,V I 16,V I 32] w λe w'=>e=ρ (.tuple #[V .u64 ((16 * x+b:Nat):Int),.nilIface])/\Below w.heap.size w w':=by
 have j:=wB a c x b k d f w;obtain⟨i,g⟩:∃i:Int,((16 * x+b:Nat):Int)=i:=⟨_,rfl⟩;rw[g]at j ⊢;clear g k d f
 go_enter func342,ntmps342
 go_wp2_with fail
 refine j.mono ?_;rintro e m ⟨rfl,l⟩
 go_wp2_with fail
 go_ret2
 exact⟨rfl,l⟩
def yD(b a:Int):Value:=.iface 471 (γ #[V .i32 b,V I a])
theorem fC(w:World)(a:List Int)(T:TypeId):RA (w.alloc (J (a.map (Value.int .i32)).toArray T)) (W ⟨w.heap.size,0,O⟩) w.heap.size 0 (a.map (Value.int .i32)):=
 λ_=>⟨rfl,by simp,λi v b=>by rw[Nat.zero_add,ae (af _ _) i];simpa using b⟩
theorem tH(s:ByteArray)(q:Int)(p:Nat)(a f:UInt8)(x i:Nat)(an:s.size<=1000000)(u:s.data.toList[p]? =W a)(l:s.data.toList[p+1]? =W f)(t:Tp.unhexD a=W x)(n:Tp.unhexD f=W i)(av:x < 8)(w:World)(N:Glob w):
 Calls π 338 #[rdV s q,V I (p:Int),V I 2] w λe w'=>e=ρ (yD ((16 * x+i:Nat):Int) ((p:Int)+2))/\Below w.heap.size w w':=by
 have ab:=c7 a x t;have a0:=c7 f i n;have a2:p+1 < s.size:=by rw[<-ap];exact(zM.1 l).1
 have ao:s.extract p (p+2)=⟨#[a,f]⟩:=by
  have:(s.extract p (p+2)).data.toList=[a,f]:=by
   rw[ByteArray.data_extract,Array.toList_extract,List.extract_eq_take_drop];have g:=zM.1 u;have C:=zM.1 l;rw[zW g.1,zW C.1,g.2,C.2];simp
  have e:(s.extract p (p+2)).data=#[a,f]:=by rw[<-Array.toArray_toList (xs:=(s.extract p (p+2)).data),this]
  cases ac:s.extract p (p+2) with
  |mk d=>rw[ac]at e;simp only at e;rw[e]
 have k:=dZ s q p (by omega) an;have H:atR s p=(a.toNat:Int):=by
  unfold atR;have g:=zM.1 u;rw[if_pos (by omega),zW g.1,g.2,Ln.aM _ _ (by omega)]
 rw[H]at k;have M:=λb=>qF a f x i t n av b;obtain⟨c,S⟩:∃c:Int,((16 * x+i:Nat):Int)=c:=⟨_,rfl⟩;obtain⟨j,G⟩:∃j:Int,(a.toNat:Int)=j:=⟨_,rfl⟩;rw[S]at M ⊢;rw[G]at k;have al:decide (j∈([43,45]:List Int))=false:=by simp;omega
 have a9:0<=c:=by omega
 have a3:c<=127:=by omega
 have ba:IntKind.i64.wrap ((p:Int)+2)=(p:Int)+2:=zU _ (by omega);have be:IntKind.i32.wrap c=c:=by simp[IntKind.wrap,IntKind.bits,IntKind.signed];omega
 have D:=λb=>utf8_ValidRune c b;have E:Lib.validRune c=true:=by unfold Lib.validRune;simp;omega
 rw[E]at D;have a6:¬(p:Int)+2 > (s.size:Int):=by omega
 have a5:∀b,(Instr.slice 9 (U s) (W (V I (p:Int))) (W (V I ((p:Int)+2))) O).run π b=.ok (U ⟨#[a,f]⟩) b:=by
  intro b;have R:=run_slice_string (P:=π) b 9 s I I (p:Int) ((p:Int)+2) underlying9 (by omega) (by omega) (by omega);rw[show ((p:Int)+2).toNat=p+2 by omega,Int.toNat_natCast,ao]at R;exact R
 have m:=(ζ w.heap.size w).alloc (η _) (J #[U s,V .i32 q] 466);have A:=zD (k _ (N.step m));have z:=zD m;unfold rdV at A ⊢;unfold yD;clear u l t n ab a0 k H S G m N E
 go_enter func338,ntmps338
 go_wp2_with fail
 refine A.out.mono ?_;rintro e y ⟨rfl,v⟩;have r:=z.out.trans (v.mono z.out.size);have F:=(v.block w.heap.size (by simp)).trans (af w _);have ad:=zD (cn j [43,45] _ _ 0 2 2 rfl (by omega) _ (fC y [43,45] 21));have L:=zD (r.alloc r.size (J #[V .i32 43,V .i32 45] 21));have bb:∀o:Obj,(y.alloc o).cell? ⟨w.heap.size,0,O⟩=W (U s):=λo=>ae (aa o F) 0;clear v r F
 go_wp2_with fail
 refine ad.out.mono ?_;rw[al];rintro e bk ⟨rfl,rfl⟩
 go_wp2_with fail
 refine(M _).mono ?_;rintro e a4 ⟨rfl,T⟩;have X:=zD (L.out.trans (T.mono (by have:=L.out.size;simpa using this)));clear T
 go_wp2_with fail
 refine(D _).mono ?_;rintro e a1 ⟨rfl,rfl⟩
 go_wp2_with fail
 go_ret
 exact⟨rfl,X.out⟩
theorem ci(s:Tp.B)(a:Tp.okPlain s=true):(∀f∈s,Tp.plainC f=true)/\s≠[]/\s≠[45]:=by
 unfold Tp.okPlain at a;simp only[zQ,Bool.not_eq_true',List.isEmpty_eq_false_iff,List.all_eq_true]at a;obtain⟨⟨d,c⟩,b⟩:=a;exact⟨d,c,λe=>by rw[e]at b;simp at b⟩
theorem tL(s:Tp.B)(c:∀a∈s,Tp.plainC a=true):Lib.trimB s 32=s:=by
 have b:∀l:Tp.B,(∀a∈l,Tp.plainC a=true)->l.dropWhile (·==32)=l:=by
  intro l d;cases l with
  |nil=>rfl
  |cons a t=>
   have:=(a8 a (d a (by simp))).2.1;rw[List.dropWhile_cons_of_neg];intro e;rw[beq_iff_eq]at e;rw[e]at this;exact absurd this (by decide)
 have f:Lib.trimRightB s 32=s:=by
  unfold Lib.trimRightB;rw[b _ (λa g=>c a (by simpa using g)),List.reverse_reverse]
 unfold Lib.trimB;rw[f];exact b s c
theorem mH(s:ByteArray)(bk:s.size<=100000)(D:Tp.okPlain s.data.toList=true)(w:World):Calls π 289 #[U s] w λe w'=>e=ρ (β true)/\Below w.heap.size w w':=by
 obtain⟨i,z,f⟩:=ci _ D;obtain⟨b,t,d⟩:=List.exists_cons_of_ne_nil z;have q:=a8 b (i b (by rw[d];simp));have ac:0 < s.size:=by rw[<-ap,d];simp
 have a6:∀a,(Instr.index 9 (U s) (V I 0)).run π a=.ok (V .u8 (b.toNat:Int)) a:=by
  intro a;rw[vQ s 0 0 rfl ac a];unfold Ln.nat
  rw[d];rfl
 obtain⟨c,o⟩:∃c,s.extract 1 s.size=c:=⟨_,rfl⟩;have ba:∀a,(Instr.slice 9 (U s) (W (V I 1)) O O).run π a=.ok (U c) a:=by
  intro a;rw[run_slice_string_l a 9 s underlying9 I 1 (by omega) (by omega),<-o];rfl
 have r:c.data.toList=t:=by
  rw[<-o,ByteArray.data_extract,Array.toList_extract,List.extract_eq_take_drop,d];rw[zR (by have:=ap s;rw[d]at this;simp at this ⊢;omega)];rfl
 have l:=strings_Trim_one s 32 (by decide);rw[tL _ i]at l;have L:∀a,Calls π 304 #[U s,U ⟨#[32]⟩] a λe w'=>e=ρ (U s)/\(w'=a\/w'=a.drew):=λa=>l a (by omega);have j:=λa=>strings_IndexByte ⟨#[44,91,93,123,125,35,38,42,33,124,62,39,34,37,64,96]⟩ (b.toNat:Int) a;obtain⟨X,k⟩:∃X,Lib.indexByte [44,91,93,123,125,35,38,42,33,124,62,39,34,37,64,96] ((b.toNat:Int)).toNat.toUInt8=X:=⟨_,rfl⟩;have P:¬(0<=X):=by have:=q.2.2.2.2.2.2;rw[k]at this;simpa using this
 rw[show (⟨#[44,91,93,123,125,35,38,42,33,124,62,39,34,37,64,96]⟩:ByteArray).data.toList=[44,91,93,123,125,35,38,42,33,124,62,39,34,37,64,96]from rfl,k]at j;have M:=λa=>uJ X 0 a;rw[decide_eq_false P]at M;have bm:∀a,(convert 5 21 (V .u8 (b.toNat:Int))).run π a=.ok (V .i32 (b.toNat:Int)) a:=by
  intro a;have:IntKind.i32.wrap (b.toNat:Int)=(b.toNat:Int):=by have:=b.toNat_lt;simp[IntKind.wrap,IntKind.bits,IntKind.signed];omega
  simp[go_sem,convert,this]
 have m:=λa g h=>nD (b.toNat:Int) [45,63,58] (W ⟨g,0,O⟩) g 0 3 3 rfl (by omega) a h;have G:decide ((b.toNat:Int)∈([45,63,58]:List Int))=decide (b.toNat=45):=by
  have bb:=q.2.2.2.1;have a1:b.toNat≠63:=by
   intro e;have:=i b (by rw[d];simp);unfold Tp.plainC at this;simp[e]at this
  rw[Bool.eq_iff_iff];simp
  omega
 rw[G]at m;have a3:s.toList.isEmpty=false:=by
  rw[ByteArray.toList_eq,d];rfl
 have be:(s.toList==s.toList)=true:=by simp
 obtain⟨ad,an,S⟩:=zx3 m L j;have C:b.toNat=45->∃x,c.data.toList[0]? =W x/\Tp.plainC x=true:=by
  intro e;have T:b=45:=UInt8.toNat_inj.1 e;cases t with
  |nil=>exact absurd (by rw[d,T]) f
  |cons x t=>exact⟨x,by rw[r];rfl,i x (by rw[d];simp)⟩
 have a0:=zD C;clear m L j G d o r l k q i D z f C;generalize (b.toNat:Int)=a9 at *
 go_enter func289,ntmps289
 go_wp2_with fail
 go_quiet (fail)
 go_wp2_with fail
 refine(an.out _).mono ?_;rintro e R ⟨rfl,E⟩;have H:Below w.heap.size w R:=by
  have A:=bM (ζ w.heap.size w) nq;rcases E with rfl|rfl
  ·exact A
  ·exact A.drew
 clear E
 go_wp2_with fail
 refine(S.out _).mono ?_;rintro e p ⟨rfl,rfl⟩
 go_wp2_with fail
 refine(ad.out (p.alloc (J #[V .i32 45,V .i32 63,V .i32 58] 21)) p.heap.size (fC p [45,63,58] 21)).mono ?_;rintro e a4 ⟨rfl,rfl⟩;have F:=H.alloc H.size (J #[V .i32 45,V .i32 63,V .i32 58] 21);by_cases f:b.toNat=45
 ·obtain⟨x,n,v⟩:=a0.out f
  have al:=a8 x v;have ab:0 < c.size:=by rw[<-ap];exact(zM.1 n).1
  have a2:∀a,(Instr.index 9 (U c) (V I 0)).run π a=.ok (V .u8 (x.toNat:Int)) a:=by
   intro a;rw[vQ c 0 0 rfl ab a];unfold Ln.nat
   rw[zY,n];rfl
  have bn:c.toList.isEmpty=false:=by
   rw[ByteArray.toList_eq];have:=ap c;cases N:c.data.toList with
   |nil=>rw[N]at this;simp at this;omega
   |cons y u=>rfl
  have a5:((x.toNat:Int)==32)=false:=by rw[beq_eq_false_iff_ne];omega
  have ao:¬(x.toNat:Int)=32:=by omega
  rw[decide_eq_true f];generalize (x.toNat:Int)=bs at *;clear n v al
  go_wp2_with fail
  go_ret
  exact⟨by simp[ao],F⟩
 ·rw[decide_eq_false f]
  go_wp2_with fail
  go_ret
  exact⟨rfl,F⟩
theorem re(s:ByteArray)(j:Bool)(k:s.size<=100000)(b:Tp.okPlain s.data.toList=true)(w:World)(m:Glob w):Calls π 267 #[U s,β j] w λe w'=>e=ρ (β true)/\Below w.heap.size w w':=by
 obtain⟨c,a,q⟩:=ci _ b;have i:Ln.right s.data.toList=true:=Ln.aH _ (λn z=>(a8 n (c n z)).1);have f:=bt s (by omega) w m;rw[i]at f;have t:=mH s k b;have g:s.size≠0:=by
  intro e;rw[<-ap]at e;exact a (List.eq_nil_of_length_eq_zero e)
 have r:=pf s j k c g;have A:s.toList.isEmpty=false:=by
  rw[ByteArray.toList_eq];cases o:s.data.toList with
  |nil=>exact absurd o a
  |cons y u=>rfl
 clear i b c a q g m
 go_enter func267,ntmps267
 go_wp2_with fail
 refine f.mono ?_;rintro e p ⟨rfl,d⟩
 go_wp2_with fail
 refine(t p).mono ?_;rintro e v ⟨rfl,l⟩
 go_wp2_with fail
 refine(r v).mono ?_;rintro e C ⟨rfl,x⟩
 go_wp2_with fail
 go_ret
 exact⟨rfl,(d.trans (l.mono d.size)).trans (x.mono (Nat.le_trans d.size l.size))⟩
theorem eK(s:ByteArray)(i:Nat):(s.extract i s.size).data.toList=s.data.toList.drop i:=by
 rw[ByteArray.data_extract,Array.toList_extract,List.extract_eq_take_drop];exact zR (by simp only[zZ,Array.length_toList];exact η _)
theorem jn(s:ByteArray)(i:Nat):(s.extract 0 i).data.toList=s.data.toList.take i:=by
 rw[ByteArray.data_extract,Array.toList_extract,List.extract_eq_take_drop];simp
theorem dd(l:Tp.B):l.take (l.takeWhile Tp.signC).length=l.takeWhile Tp.signC:=by
 induction l with
 |nil=>rfl
 |cons c t ih=>
  cases a:Tp.signC c with
  |true=>rw[List.takeWhile_cons_of_pos a];simp[ih]
  |false=>rw[List.takeWhile_cons_of_neg (by rw[a];decide)];rfl
theorem qZ(R:UInt8)(cl:R=38\/R=42)(a:Nat)(s:ByteArray)(p d:Nat)(en:s.size<=100000)(bm:s.data.toList[p]? =W R)(db:Tp.isName ((s.data.toList.drop (p+1)).takeWhile Tp.signC)=true)
(c9:Tp.closed d (s.data.toList.drop (p+1+((s.data.toList.drop (p+1)).takeWhile Tp.signC).length))=true)(w:World)(ba:yb w a s p d):
 Calls π 261 #[Z (W ⟨a,0,O⟩)] w (yh w a s (p+1+((s.data.toList.drop (p+1)).takeWhile Tp.signC).length) d ⟨if R=38 then 3 else 4,(s.data.toList.drop (p+1)).takeWhile Tp.signC,p⟩):=by
 have er:p < s.size:=by rw[<-ap];exact(zM.1 bm).1
 obtain⟨b,P⟩:∃b,(s.data.toList.drop (p+1)).takeWhile Tp.signC=b:=⟨_,rfl⟩;have d2:b.length<=s.size - (p+1):=by
  have:=(List.takeWhile_sublist Tp.signC (l:=s.data.toList.drop (p+1))).length_le;rw[P,zZ,ap]at this;exact this
 have ao:(s.extract (p+1) s.size).size=s.size - (p+1):=by rw[ByteArray.size_extract];simp
 have a6:=oU (s.extract (p+1) s.size);rw[eK,P,ao]at a6;have dv:∀L,(Instr.slice 9 (U s) (W (V I ((p:Int)+1))) O O).run π L=.ok (U (s.extract (p+1) s.size)) L:=by
  intro L;rw[run_slice_string_l L 9 s underlying9 I ((p:Int)+1) (by omega) (by omega)];rfl
 have a2:((s.extract (p+1) s.size).extract 0 b.length).data.toList=b:=by rw[jn,eK,<-P,dd]
 have c5:∀L,(Instr.slice 9 (U (s.extract (p+1) s.size)) O (W (V I (b.length:Int))) O).run π L=.ok (U ((s.extract (p+1) s.size).extract 0 b.length)) L:=by
  intro L;rw[run_slice_string_h L 9 (s.extract (p+1) s.size) underlying9 I (b.length:Int) (by omega) (by rw[ao];omega)];rfl
 obtain⟨m,ck⟩:∃m,(s.extract (p+1) s.size).extract 0 b.length=m:=⟨_,rfl⟩;rw[ck]at a2 c5;obtain⟨an,c6⟩:∃an,s.extract (p+1) s.size=an:=⟨_,rfl⟩;rw[c6]at ao a6 dv c5;have b9:m.size=b.length:=by rw[<-ap,a2]
 have cc:=io m (by omega) (by rw[a2,<-P];exact db);have bb:=bT a s (p+1+b.length) d (p+1+b.length) 0 (by omega) (by omega) (by omega);rw[<-P,c9,P]at bb;obtain⟨a3,bw⟩:∃a3,yC s p [42]=a3:=⟨_,rfl⟩;have c3:a3=decide (R=42):=by
  rw[<-bw];unfold yC;rw[bm,Bool.eq_iff_iff];simp
 have eq:IntKind.i64.wrap ((p:Int)+1)=(p:Int)+1:=zU _ (by omega);have da:IntKind.i64.wrap ((an.size:Int) - ((s.size - (p+1) - b.length:Nat):Int))=(b.length:Int):=by rw[ao,show ((s.size - (p+1):Nat):Int) - ((s.size - (p+1) - b.length:Nat):Int)=(b.length:Int)by omega];exact zU _ (by omega)
 have cb:IntKind.i64.wrap (1+(b.length:Int))=1+(b.length:Int):=zU _ (by omega);have d3:IntKind.i64.wrap ((p:Int)+(1+(b.length:Int)))=((p+1+b.length:Nat):Int):=by rw[show (p:Int)+(1+(b.length:Int))=((p+1+b.length:Nat):Int)by omega];exact zU _ (by omega)
 obtain⟨t,b3⟩:∃t:Int,((p+1+b.length:Nat):Int)=t:=⟨_,rfl⟩;rw[b3]at d3;have cf:=zD b3;clear b3;rw[P];obtain⟨k,S⟩:∃k:Int,(if R=38 then 3 else 4)=k:=⟨_,rfl⟩;rw[S];have ch:=zD S;clear S;have ca:=lt_of_heap ba;have b4:yb (((w.alloc (J #[V I 0,U ⟨#[]⟩,V I 0] 305)).alloc (J #[V I 3,U ⟨#[]⟩,V I (p:Int)] 305)).alloc (J #[V .u8 42] 5)) a s p d:=aa _ (aa _ (aa _ ba));have c0:(((w.alloc (J #[V I 0,U ⟨#[]⟩,V I 0] 305)).alloc (J #[V I 3,U ⟨#[]⟩,V I (p:Int)] 305)).alloc (J #[V .u8 42] 5)).heap[w.heap.size]? =W (J #[V I 0,U ⟨#[]⟩,V I 0] 305):=aa _ (aa _ (af w _));have dc:(((w.alloc (J #[V I 0,U ⟨#[]⟩,V I 0] 305)).alloc (J #[V I 3,U ⟨#[]⟩,V I (p:Int)] 305)).alloc (J #[V .u8 42] 5)).heap[w.heap.size+1]? =W (J #[V I 3,U ⟨#[]⟩,V I (p:Int)] 305):=aa _ (ah _ _ _ (by simp));have co:Below w.heap.size w (((w.alloc (J #[V I 0,U ⟨#[]⟩,V I 0] 305)).alloc (J #[V I 3,U ⟨#[]⟩,V I (p:Int)] 305)).alloc (J #[V .u8 42] 5)):=(((ζ _ w).alloc (η _) _).alloc (by simp) _).alloc (by simp;omega) _;have b5:RA (((w.alloc (J #[V I 0,U ⟨#[]⟩,V I 0] 305)).alloc (J #[V I 3,U ⟨#[]⟩,V I (p:Int)] 305)).alloc (J #[V .u8 42] 5)) (W ⟨w.heap.size+1+1,0,O⟩) (w.heap.size+1+1) 0 ([42].map byV):=dI _ [42] 5 _ (by simp);have bk:=cO a s p d p 0 (by omega) (by omega) (by omega) [42] (w.heap.size+1+1) 1 rfl (by omega) _ b4 b5;rw[bw]at bk;have be:=zD bk;have ei:(w.alloc (J #[V I 0,U ⟨#[]⟩,V I 0] 305)).cell? ⟨a,1,O⟩=W (V I (p:Int)):=ae (aa _ ba) 1;obtain⟨b6,c2,c4,cv,cm,ct⟩:=zx6 a6 cc bb b9 a2 c3;obtain⟨d1,a4,a9,ab,a5⟩:=zx5 cl b4 c0 dc co;clear ba b4 c0 dc co b5 bk a6 cc bb db c9 bm bw c3 a2 ck c6 P cl b9 d2 ao
 go_enter func261,ntmps261
 go_wp2_with fail
 refine be.out.mono ?_;rintro e M ⟨rfl,rfl⟩;generalize ((w.alloc (J #[V I 0,U ⟨#[]⟩,V I 0] 305)).alloc (J #[V I 3,U ⟨#[]⟩,V I (p:Int)] 305)).alloc (J #[V .u8 42] 5)=M at *;have c1:=zF ab.out 0 rfl;have b8:=ag ab.out 0;have S:=ch.out;clear ch;cases a3 with
 |false=>
  have av:R=38:=by
   rcases d1.out with N|N
   ·exact N
   ·have:=ct.out;rw[N]at this;simp at this
  rw[if_pos av]at S;subst S;clear av
  go_upto_region 4 with (fail)
  have q:=a4.out;have v:=a9.out;have o:=ab.out;have u:=a5.out;clear c1 b8 a4 a9 ab a5 be;have b2:=zF q 0 rfl;have X:=zF q 1 rfl;have ac:M.heap[w.heap.size+1]? =W (J #[V I 3,U ⟨#[]⟩,V I (p:Int)] 305 (0,0)):=o;obtain⟨A,z,C,H⟩:=zx4 q v ac u;clear q v o u ac
  go_quiet (fail)
  have q:yb (M.drewN nq) a s p d:=A.out;have v:(M.drewN nq).heap[w.heap.size]? =W (J #[V I 0,U ⟨#[]⟩,V I 0] 305 (0,0)):=z.out;have o:(M.drewN nq).heap[w.heap.size+1]? =W (J #[V I 3,U ⟨#[]⟩,V I (p:Int)] 305 (0,0)):=C.out;have u:=bM H.out nq;clear b2 X A z C H
  go_upto_region 5 with (fail)
  generalize M.drewN nq=bD at *;obtain⟨A,z,C,H⟩:=zx4 q v o u;clear q v o u
  go_wp2_with fail
  refine(b6.out bD).mono ?_;rintro e E ⟨⟨bs,rfl,a0⟩,G⟩;have d5:IntKind.i64.wrap ((an.size:Int) - (bs.size:Int))=(b.length:Int):=by rw[a0];exact da
  have q:=A.out.below G (lt_of_heap A.out);have v:=(G.block _ (lt_of_heap z.out)).trans z.out;have o:=(G.block _ (lt_of_heap C.out)).trans C.out;have u:=(Far.of_below H.out (·=a)).below G;have b1:=zF o 1 rfl;have bx:=ag o 1;have j:yb (E.setCell ⟨w.heap.size+1,1,O⟩ (U m)) a s p d:=(Below.heap_setCell _ _ _ _ (by show a≠w.heap.size+1;omega)).trans q;have c:(E.setCell ⟨w.heap.size+1,1,O⟩ (U m)).heap[w.heap.size]? =W (J #[V I 0,U ⟨#[]⟩,V I 0] 305 (0,0)):=(Below.heap_setCell _ _ _ _ (by show w.heap.size≠w.heap.size+1;omega)).trans v;have f:(E.setCell ⟨w.heap.size+1,1,O⟩ (U m)).heap[w.heap.size+1]? =W (J #[V I 3,U m,V I (p:Int)] 305 (0,0)):=ai o 1 _;have i:Far (·=a) w (E.setCell ⟨w.heap.size+1,1,O⟩ (U m)):=u.setCell (p:=⟨w.heap.size+1,1,O⟩) (λN=>by have:w.heap.size+1 < w.heap.size:=N;omega) _;obtain⟨g,n,r,x⟩:=zx4 j c f i;clear q v o u G a0 j c f i A z C H
  go_upto_region 6 with (fail)
  clear b1 bx;generalize E.setCell ⟨w.heap.size+1,1,O⟩ (U m)=y at *;have X:=zF g.out 1 rfl;have ad:=ag g.out 1;have T:=zF r.out 1 rfl;have a1:=cv.out;have ds:IntKind.i64.wrap (1+(m.size:Int))=1+(b.length:Int):=by rw[a1];exact cb
  clear a1
  go_region
  all_goals (
   have j:yb ((y.setCell ⟨a,1,O⟩ (V I t)).drew) a s (p+1+b.length) d:=by have:=ai g.out 1 (V I t);rw[<-cf.out]at this ⊢;exact this
   have c:((y.setCell ⟨a,1,O⟩ (V I t)).drew).heap[w.heap.size]? =W (J #[V I 0,U ⟨#[]⟩,V I 0] 305 (0,0)):=(show (y.setCell ⟨a,1,O⟩ (V I t)).heap[w.heap.size]? =_ from (Below.heap_setCell _ _ _ _ (by show w.heap.size≠a;omega)).trans n.out);have f:((y.setCell ⟨a,1,O⟩ (V I t)).drew).heap[w.heap.size+1]? =W (J #[V I 3,U m,V I (p:Int)] 305 (0,0)):=(show (y.setCell ⟨a,1,O⟩ (V I t)).heap[w.heap.size+1]? =_ from (Below.heap_setCell _ _ _ _ (by show w.heap.size+1≠a;omega)).trans r.out);have i:Far (·=a) w ((y.setCell ⟨a,1,O⟩ (V I t)).drew):=(x.out.setCell (p:=⟨a,1,O⟩) (λ_=>rfl) _).drew
   go_upto_region 7 with (fail)
   clear X T ad g n r x;generalize (y.setCell ⟨a,1,O⟩ (V I t)).drew=bR at *;obtain⟨g,n,r,x⟩:=zx4 j c f i;have T:=zF f 1 rfl;clear j c f i
   go_wp2_with fail
   refine(c2.out bR).mono ?_;rintro e b0 ⟨rfl,D⟩;have j:=g.out.below D (lt_of_heap g.out);have c:=(D.block _ (lt_of_heap n.out)).trans n.out;have f:=(D.block _ (lt_of_heap r.out)).trans r.out;have i:=x.out.below D;obtain⟨g,n,r,x⟩:=zx4 j c f i;clear j c f i T D
   go_wp2_with fail
   refine(c4.out b0 g.out).mono ?_;rintro e bn ⟨rfl,F⟩;have j:=g.out.below F (lt_of_heap g.out);have c:=(F.block _ (lt_of_heap n.out)).trans n.out;have f:=(F.block _ (lt_of_heap r.out)).trans r.out;have i:=x.out.below F;obtain⟨g,n,x⟩:=zx3 j c i;have dp:=zF f 0 rfl;have d0:=zF f 1 rfl;have df:=zF f 2 rfl;have dn:=zF c 0 rfl;have dr:=zF c 1 rfl;have d4:=zF c 2 rfl;have d6:=ag c 0;have ad:=ag c 1;have eg:=ag c 2;clear j c f i F
   go_wp2_with fail
   rw[show (U m:Value)=xR b by rw[<-cm.out];rfl];exact aF results261 w bn a s (p+1+b.length) d ⟨3,b,p⟩ _ n.out g.out x.out ca rfl rfl)
 |true=>
  have av:¬R=38:=by
   intro N;have:=ct.out;rw[N]at this;simp at this
  rw[if_neg av]at S;subst S;clear av
  go_upto_region 4 with (fail)
  have q:yb (M.setCell ⟨w.heap.size+1,0,O⟩ (V I 4)) a s p d:=(Below.heap_setCell _ _ _ _ (by show a≠w.heap.size+1;omega)).trans a4.out;have v:(M.setCell ⟨w.heap.size+1,0,O⟩ (V I 4)).heap[w.heap.size]? =W (J #[V I 0,U ⟨#[]⟩,V I 0] 305):=(Below.heap_setCell _ _ _ _ (by show w.heap.size≠w.heap.size+1;omega)).trans a9.out;have o:=ai ab.out 0 (V I 4);have u:=a5.out.setCell (p:=⟨w.heap.size+1,0,O⟩) (by show w.heap.size<=w.heap.size+1;omega) (V I 4);clear c1 b8 a4 a9 ab a5 be;generalize (M.setCell ⟨w.heap.size+1,0,O⟩ (V I 4))=al at *;have b2:=zF q 0 rfl;have X:=zF q 1 rfl;have ac:al.heap[w.heap.size+1]? =W (J #[V I 4,U ⟨#[]⟩,V I (p:Int)] 305 (0,0)):=o;obtain⟨A,z,C,H⟩:=zx4 q v ac u;clear q v o u ac
  go_quiet (fail)
  have q:yb (al.drewN nq) a s p d:=A.out;have v:(al.drewN nq).heap[w.heap.size]? =W (J #[V I 0,U ⟨#[]⟩,V I 0] 305 (0,0)):=z.out;have o:(al.drewN nq).heap[w.heap.size+1]? =W (J #[V I 4,U ⟨#[]⟩,V I (p:Int)] 305 (0,0)):=C.out;have u:=bM H.out nq;clear b2 X A z C H
  go_upto_region 5 with (fail)
  generalize al.drewN nq=bD at *;obtain⟨A,z,C,H⟩:=zx4 q v o u;clear q v o u
  go_wp2_with fail
  refine(b6.out bD).mono ?_;rintro e E ⟨⟨bs,rfl,a0⟩,G⟩;have d5:IntKind.i64.wrap ((an.size:Int) - (bs.size:Int))=(b.length:Int):=by rw[a0];exact da
  have q:=A.out.below G (lt_of_heap A.out);have v:=(G.block _ (lt_of_heap z.out)).trans z.out;have o:=(G.block _ (lt_of_heap C.out)).trans C.out;have u:=(Far.of_below H.out (·=a)).below G;have b1:=zF o 1 rfl;have bx:=ag o 1;have j:yb (E.setCell ⟨w.heap.size+1,1,O⟩ (U m)) a s p d:=(Below.heap_setCell _ _ _ _ (by show a≠w.heap.size+1;omega)).trans q;have c:(E.setCell ⟨w.heap.size+1,1,O⟩ (U m)).heap[w.heap.size]? =W (J #[V I 0,U ⟨#[]⟩,V I 0] 305 (0,0)):=(Below.heap_setCell _ _ _ _ (by show w.heap.size≠w.heap.size+1;omega)).trans v;have f:(E.setCell ⟨w.heap.size+1,1,O⟩ (U m)).heap[w.heap.size+1]? =W (J #[V I 4,U m,V I (p:Int)] 305 (0,0)):=ai o 1 _;have i:Far (·=a) w (E.setCell ⟨w.heap.size+1,1,O⟩ (U m)):=u.setCell (p:=⟨w.heap.size+1,1,O⟩) (λN=>by have:w.heap.size+1 < w.heap.size:=N;omega) _;obtain⟨g,n,r,x⟩:=zx4 j c f i;clear q v o u G a0 j c f i A z C H
  go_upto_region 6 with (fail)
  clear b1 bx;generalize E.setCell ⟨w.heap.size+1,1,O⟩ (U m)=y at *;have X:=zF g.out 1 rfl;have ad:=ag g.out 1;have T:=zF r.out 1 rfl;have a1:=cv.out;have ds:IntKind.i64.wrap (1+(m.size:Int))=1+(b.length:Int):=by rw[a1];exact cb
  clear a1
  go_region
  all_goals (
   have j:yb ((y.setCell ⟨a,1,O⟩ (V I t)).drew) a s (p+1+b.length) d:=by have:=ai g.out 1 (V I t);rw[<-cf.out]at this ⊢;exact this
   have c:((y.setCell ⟨a,1,O⟩ (V I t)).drew).heap[w.heap.size]? =W (J #[V I 0,U ⟨#[]⟩,V I 0] 305 (0,0)):=(show (y.setCell ⟨a,1,O⟩ (V I t)).heap[w.heap.size]? =_ from (Below.heap_setCell _ _ _ _ (by show w.heap.size≠a;omega)).trans n.out);have f:((y.setCell ⟨a,1,O⟩ (V I t)).drew).heap[w.heap.size+1]? =W (J #[V I 4,U m,V I (p:Int)] 305 (0,0)):=(show (y.setCell ⟨a,1,O⟩ (V I t)).heap[w.heap.size+1]? =_ from (Below.heap_setCell _ _ _ _ (by show w.heap.size+1≠a;omega)).trans r.out);have i:Far (·=a) w ((y.setCell ⟨a,1,O⟩ (V I t)).drew):=(x.out.setCell (p:=⟨a,1,O⟩) (λ_=>rfl) _).drew
   go_upto_region 7 with (fail)
   clear X T ad g n r x;generalize (y.setCell ⟨a,1,O⟩ (V I t)).drew=bR at *;obtain⟨g,n,r,x⟩:=zx4 j c f i;have T:=zF f 1 rfl;clear j c f i
   go_wp2_with fail
   refine(c2.out bR).mono ?_;rintro e b0 ⟨rfl,D⟩;have j:=g.out.below D (lt_of_heap g.out);have c:=(D.block _ (lt_of_heap n.out)).trans n.out;have f:=(D.block _ (lt_of_heap r.out)).trans r.out;have i:=x.out.below D;obtain⟨g,n,r,x⟩:=zx4 j c f i;clear j c f i T D
   go_wp2_with fail
   refine(c4.out b0 g.out).mono ?_;rintro e bn ⟨rfl,F⟩;have j:=g.out.below F (lt_of_heap g.out);have c:=(F.block _ (lt_of_heap n.out)).trans n.out;have f:=(F.block _ (lt_of_heap r.out)).trans r.out;have i:=x.out.below F;obtain⟨g,n,x⟩:=zx3 j c i;have dp:=zF f 0 rfl;have d0:=zF f 1 rfl;have df:=zF f 2 rfl;have dn:=zF c 0 rfl;have dr:=zF c 1 rfl;have d4:=zF c 2 rfl;have d6:=ag c 0;have ad:=ag c 1;have eg:=ag c 2;clear j c f i F
   go_wp2_with fail
   rw[show (U m:Value)=xR b by rw[<-cm.out];rfl];exact aF results261 w bn a s (p+1+b.length) d ⟨4,b,p⟩ _ n.out g.out x.out ca rfl rfl)
section
open Go.ChangeMaps (setBlock)
open Go.MapKept
theorem fp{w:World}{a:Nat}{x:Obj}(o:Obj)(b:w.heap[a]? =W x):(setBlock w a o).heap[a]? =W o:=by simp[setBlock,lt_of_heap b]
theorem cI{w:World}(a:Nat)(o:Obj):Far (·=a) w (setBlock w a o):=⟨rfl,rfl,rfl,by simp[setBlock],λi c b=>by simp only[setBlock];rw[Array.getElem?_setIfInBounds_ne (λe=>b e.symm)]⟩
theorem qE{w:World}{a:Nat}{c:Array MapEntry}{b:Nat}(d:w.heap[a]? =W (.map c b))(k v:Int)(i:-2147483648<=k)(f:k<=2147483647)(n:∀e∈c.toList,(∃l,keyOf π 21 e.key=W l)/\e.key≠.int .i32 k):
 ∃w',(Instr.mapUpdate 46 (.map (W a)) (.int .i32 k) (.int .i32 v)).run π w=.ok () w'/\w'.heap[a]? =W (.map (c.push ⟨.int .i32 k,.int .i32 v,b⟩) (b+1))/\Far (·=a) w w':=by
 refine⟨setBlock w a (.map (c.push ⟨.int .i32 k,.int .i32 v,b⟩) (b+1)),?_,fp _ d,cI a _⟩;rcases mA.find w (eP k i f) c.toList (λe q=>(n e q).1)with ⟨m,g⟩|⟨j,o,m,g,p⟩
 ·simp[Instr.mapUpdate,run_underlying underlying46,MapKept.run_getObj_map d,mA.check w false (eP k i f),m,MapKept.run_setObj_map _ d,Result.andThen,setBlock]
 ·exact absurd p (n o (zL g)).2
def yi:Array MapEntry:=#[⟨V .i32 10,V .i32 110,0⟩,⟨V .i32 9,V .i32 116,1⟩,⟨V .i32 13,V .i32 114,2⟩]
theorem tc(w:World):Calls π 14 #[] w λe w'=>e=ρ (.map (W w.heap.size))/\w'.heap[w.heap.size]? =W (.map yi 3)/\Below w.heap.size w w':=by
 have q:=@run_makeMap π;have f:=af w (.map #[] 0);obtain⟨o,s,j,d⟩:=qE f 10 110 (by decide) (by decide) (by simp);obtain⟨u,r,c,k⟩:=qE j 9 116 (by decide) (by decide) (by intro e a;simp at a;subst a;exact⟨⟨_,eP 10 (by decide) (by decide)⟩,by simp⟩);obtain⟨p,t,m,l⟩:=qE c 13 114 (by decide) (by decide) (by
  intro e a;simp at a
  rcases a with rfl|rfl
  ·exact⟨⟨_,eP 10 (by decide) (by decide)⟩,by simp⟩
  ·exact⟨⟨_,eP 9 (by decide) (by decide)⟩,by simp⟩)
 have g:=(((ξ (·=w.heap.size) w).alloc (.map #[] 0)).step (D':=(·=w.heap.size)) (d.trans (k.trans l)) (λi n e=>e)).to_below (η _) (λi n e=>by omega);have b:=zD (θ m g);clear f j c m g d k l
 go_enter func14,ntmps14
 go_wp2
 go_ret
 exact⟨rfl,b.out.1,b.out.2⟩
end
section
open Go.ChangeMaps (setBlock)
theorem gy(s:ByteArray)(p:Nat)(a:UInt8)(d:s.data.toList[p]? =W a)(e:a.toNat < 128):atR s p=(a.toNat:Int)/\p < s.size:=by
 have b:=zM.1 d;have c:p < s.size:=by rw[<-ap];exact b.1
 unfold atR;rw[if_pos c,zW b.1,b.2,Ln.aM _ _ e];exact⟨rfl,c⟩
theorem t8(s:ByteArray)(q:Int)(p:Nat)(b:UInt8)(z:s.size<=1000000)(o:s.data.toList[p]? =W b)(x:b.toNat=34\/b.toNat=92)(w:World)(n:Glob w):
 Calls π 329 #[rdV s q,V I (p:Int)] w λe w'=>e=ρ (yD (b.toNat:Int) ((p:Int)+1))/\Below w.heap.size w w':=by
 obtain⟨m,E⟩:=gy s p b o (by omega);have c:=dZ s q p (by omega) z;rw[m]at c;obtain⟨a,l⟩:∃a:Int,(b.toNat:Int)=a:=⟨_,rfl⟩;have t:a=34\/a=92:=by omega
 rw[l]at c ⊢;have C:IntKind.i64.wrap ((p:Int)+1)=(p:Int)+1:=zU _ (by omega);have A:¬(s.size:Int)<=(p:Int):=by omega
 have v:decide (a∈([34,92,47]:List Int))=true:=by simp;omega
 have d:=(ζ w.heap.size w).alloc (η _) (J #[U s,V .i32 q] 466);have j:=zD (c _ (n.step d));have i:=zD d;unfold rdV at j ⊢;unfold yD;clear c d n m o x l t
 go_enter func329,ntmps329
 go_wp2_with fail
 refine j.out.mono ?_;rintro e r ⟨rfl,g⟩;have f:=i.out.trans (g.mono i.out.size);have k:=(g.block w.heap.size (by simp)).trans (af w _);have u:=zD (cn a [34,92,47] _ _ 0 3 3 rfl (by omega) _ (fC r [34,92,47] 21));have y:=zD (f.alloc f.size (J #[V .i32 34,V .i32 92,V .i32 47] 21));have D:=zF k 0 rfl;clear g f k
 go_wp2_with fail
 refine u.out.mono ?_;rw[v];rintro e F ⟨rfl,rfl⟩
 go_wp2_with fail
 go_ret
 exact⟨rfl,y.out⟩
theorem t7(s:ByteArray)(q:Int)(p:Nat)(a i:UInt8)(x c:Nat)(A:s.size<=1000000)(E:s.data.toList[p]? =W 120)(D:s.data.toList[p+1]? =W a)(v:s.data.toList[p+2]? =W i)(C:Tp.unhexD a=W x)(y:Tp.unhexD i=W c)(N:x < 8)(w:World)(l:Glob w):
 Calls π 329 #[rdV s q,V I (p:Int)] w λe w'=>e=ρ (yD ((16 * x+c:Nat):Int) ((p:Int)+3))/\Below w.heap.size w w':=by
 obtain⟨z,an⟩:=gy s p 120 E (by decide);have f:=dZ s q p (by omega) A;rw[z,show ((120:UInt8).toNat:Int)=120 from rfl]at f;have ab:IntKind.i64.wrap ((p:Int)+1)=((p+1:Nat):Int):=by rw[show (p:Int)+1=((p+1:Nat):Int)by omega];exact zU _ (by omega)
 have X:¬(s.size:Int)<=(p:Int):=by omega
 have L:decide ((120:Int)∈([34,92,47]:List Int))=false:=by decide
 have g:=(ζ w.heap.size w).alloc (η _) (J #[U s,V .i32 q] 466);have u:=zD (f _ (l.step g));obtain⟨t,G⟩:=zx2 g l;have m:=λF M=>tH s q (p+1) a i x c A D v C y N F M;rw[show ((p+1:Nat):Int)+2=(p:Int)+3 by omega]at m;generalize ((p+1:Nat):Int)=al at *;generalize ((16 * x+c:Nat):Int)=ac at *;generalize (p:Int)+3=S at *;have r:=zD m;unfold rdV at u r ⊢;unfold yD at r ⊢;clear f g l z E D v C y m
 go_enter func329,ntmps329
 go_wp2_with fail
 refine u.out.mono ?_;rintro e d ⟨rfl,n⟩;have k:=t.out.trans (n.mono t.out.size);have b:=(n.block w.heap.size (by simp)).trans (af w _);have H:=zD (cn 120 [34,92,47] _ _ 0 3 3 rfl (by omega) _ (fC d [34,92,47] 21));have j:=zD (k.alloc k.size (J #[V .i32 34,V .i32 92,V .i32 47] 21));have ad:=zF b 0 rfl;have ao:∀o:Obj,(d.alloc o).cell? ⟨w.heap.size,0,O⟩=W (U s):=λo=>ae (aa o b) 0;have T:∀o:Obj,(d.alloc o).cell? ⟨w.heap.size,1,O⟩=W (V .i32 q):=λo=>ae (aa o b) 1;clear n k b
 go_wp2_with fail
 refine H.out.mono ?_;rw[L];rintro e av ⟨rfl,rfl⟩
 go_wp2_with fail
 refine(r.out _ (G.out.step j.out)).mono ?_;rintro e R ⟨rfl,P⟩
 go_wp2_with fail
 go_ret
 exact⟨rfl,j.out.trans (P.mono j.out.size)⟩
end
section
open Go.ChangeMaps (setBlock)
def Am(b a:Int):Prop:=(b=110/\a=10)\/(b=116/\a=9)\/(b=114/\a=13)
theorem jo(s:ByteArray)(q:Int)(p:Nat)(j:UInt8)(A:Int)(cb:s.size<=1000000)(a1:s.data.toList[p]? =W j)(f:Am (j.toNat:Int) A)(w:World)(a0:Glob w):
 Calls π 329 #[rdV s q,.int I (p:Int)] w λe w'=>e=ρ (yD A ((p:Int)+1))/\Below w.heap.size w w':=by
 have ca:j.toNat < 128:=by unfold Am at f;omega
 obtain⟨bR,dv⟩:=gy s p j a1 ca;have F:=dZ s q p (by omega) cb;rw[bR]at F;obtain⟨d,bD⟩:∃d:Int,(j.toNat:Int)=d:=⟨_,rfl⟩;rw[bD]at F f;have c5:IntKind.i64.wrap ((p:Int)+1)=(p:Int)+1:=zU _ (by omega);have dn:¬(s.size:Int)<=(p:Int):=by omega
 have c9:(d==48)=false:=by rcases f with ⟨rfl,_⟩|⟨rfl,_⟩|⟨rfl,_⟩<;>rfl
 have da:(d==120)=false:=by rcases f with ⟨rfl,_⟩|⟨rfl,_⟩|⟨rfl,_⟩<;>rfl
 have df:(d==117)=false:=by rcases f with ⟨rfl,_⟩|⟨rfl,_⟩|⟨rfl,_⟩<;>rfl
 have dr:¬d=48:=by rcases f with ⟨rfl,_⟩|⟨rfl,_⟩|⟨rfl,_⟩<;>decide
 have ds:¬d=120:=by rcases f with ⟨rfl,_⟩|⟨rfl,_⟩|⟨rfl,_⟩<;>decide
 have dc:¬d=117:=by rcases f with ⟨rfl,_⟩|⟨rfl,_⟩|⟨rfl,_⟩<;>decide
 have b3:decide (d∈([34,92,47]:List Int))=false:=by rcases f with ⟨rfl,_⟩|⟨rfl,_⟩|⟨rfl,_⟩<;>decide
 have N:=(ζ w.heap.size w).alloc (η _) (J #[.string s,.int .i32 q] 466);have a2:=zD (F _ (a0.step N));obtain⟨ba,be⟩:=zx2 N f;unfold rdV at a2 ⊢;unfold yD;clear F N a0 bR a1 f bD
 go_enter func329,ntmps329
 go_wp2_with fail
 refine a2.out.mono ?_;rintro e bn ⟨rfl,an⟩;have R:=ba.out.trans (an.mono ba.out.size);have bw:=(an.block w.heap.size (by simp)).trans (af w _);have cm:=zD (cn d [34,92,47] _ _ 0 3 3 rfl (by omega) _ (fC bn [34,92,47] 21));have a6:=zD (R.alloc R.size (J #[.int .i32 34,.int .i32 92,.int .i32 47] 21));have r:=zF bw 0 rfl;clear an R bw
 go_wp2_with fail
 refine cm.out.mono ?_;rw[b3];rintro e ao ⟨rfl,rfl⟩
 go_wp2_with fail
 generalize hW2:(bn.alloc (Obj.cells #[.int .i32 34,.int .i32 92,.int .i32 47] 21))=ao at *;refine(tc ao).mono ?_;rintro e u ⟨rfl,y,a9⟩;obtain⟨a,bb⟩:∃a,ao.heap.size=a:=⟨_,rfl⟩;rw[bb]at y;simp only[bb];have bs:=λ(t:TypeId) (b2:prog.underlying t=W (.map 21 21))=>run_range_map (P:=π) u t 21 21 a yi 3 b2 y;have cl:=bs 46 underlying46;have H:=a6.out.trans (a9.mono a6.out.size);have cv:=H.alloc H.size (.mapIter (W a) 3 #[] 3);have bm:=af u (.mapIter (W a) 3 #[] 3);have b6:=aa (.mapIter (W a) 3 #[] 3) y;obtain⟨b,hI⟩:∃b,u.heap.size=b:=⟨_,rfl⟩;have b1:a≠b:=by have:=lt_of_heap y;omega
 have b4:w.heap.size<=b:=by have:=H.size;omega
 simp only[hI]at cl bm;clear bs a9 H
 go_wp2_with fail
 generalize (u.alloc (.mapIter (W a) 3 #[] 3))=db at *
 go_loopw [] (λwr=>∃c r,wr.heap[b]? =W (.mapIter (W a) 3 c r)/\3<=r/\wr.heap[a]? =W (.map yi 3)/\Below w.heap.size w wr/\(∀x∈yi.toList,c.contains x.born=true->x.val≠.int .i32 d)) (λwr=>(leftOf yi (wr.iterSeen b)).size)
 case atStart=>exact⟨#[],3,bm,η _,b6,cv,λx _ T=>by simp at T⟩
 case round=>
  obtain⟨c,r,o,cf,E,ab,l⟩:=hrel;rcases run_next_at (P:=π) wr 0 b a 3 r c yi 3 o E (by decide) cf with ⟨co,C⟩|⟨e,ad,w5,X,C⟩
  ·exfalso
   have S:=all_seen yi c co;rcases be.out with ⟨rfl,_⟩|⟨rfl,_⟩|⟨rfl,_⟩
   ·exact l ⟨.int .i32 10,.int .i32 110,0⟩ (by simp[yi]) (S _ (by simp[yi])) rfl
   ·exact l ⟨.int .i32 9,.int .i32 116,1⟩ (by simp[yi]) (S _ (by simp[yi])) rfl
   ·exact l ⟨.int .i32 13,.int .i32 114,2⟩ (by simp[yi]) (S _ (by simp[yi])) rfl
  ·have bk:=left_shrinks yi c e ad
   have n:=(mem_left ad).1;have m:w5.heap=wr.heap:=by rcases X with rfl|rfl<;>rfl
   have G:(setBlock w5 b (.mapIter (W a) 3 (c.push e.born) 3)).heap[b]? =W (.mapIter (W a) 3 (c.push e.born) 3):=fp _ (by rw[m];exact o);have L:(setBlock w5 b (.mapIter (W a) 3 (c.push e.born) 3)).heap[a]? =W (.map yi 3):=by
    rw[(cI (w:=w5) b (.mapIter (W a) 3 (c.push e.born) 3)).block a (by rw[m];exact lt_of_heap E) (λe=>b1 e),m];exact E
   have ac:Below w.heap.size w (setBlock w5 b (.mapIter (W a) 3 (c.push e.born) 3)):=by
    have c2:Below w.heap.size w w5:=by rcases X with rfl|rfl;exact ab;exact ab.drew
    exact c2.trans ((cI (w:=w5) b _).to_below (Nat.le_of_lt (by rw[m];exact Nat.lt_of_le_of_lt b4 (lt_of_heap o))) (λi c4 e=>by omega))
   have bx:=run_entry_at (P:=π) _ b a 3 c yi 3 e G L n (by decide);have a5:∀b9,(Instr.next (.pointer (W ⟨b,0,O⟩)) false b9).run π wr=_:=λ_=>C;have ct:∃k v:Int,e.key=.int .i32 k/\e.val=.int .i32 v/\(v=d->k=A):=by
    have ck:=be.out;unfold Am at ck;simp only[yi,List.mem_cons,List.not_mem_nil,or_false]at n;rcases n with rfl|rfl|rfl
    ·exact⟨10,110,rfl,rfl,by omega⟩
    ·exact⟨9,116,rfl,rfl,by omega⟩
    ·exact⟨13,114,rfl,rfl,by omega⟩
   obtain⟨k,v,M,D,a4⟩:=ct;have a3:∀x∈yi.toList,(c.push e.born).contains x.born=true->x.val≠.int .i32 d\/x=e:=by
    intro x g av;rw[contains_push]at av;rcases Bool.or_eq_true _ _ ▸ av with al|al
    ·exact Or.inl (l x g al)
    ·right
     have ch:=beq_iff_eq.1 al;clear bx a5 C G L ac bk ad M D;simp only[yi,List.mem_cons,List.not_mem_nil,or_false]at n g;rcases n with rfl|rfl|rfl<;>rcases g with rfl|rfl|rfl<;>first|rfl|exact absurd ch (by decide)
   have b5:=zD a3;have c1:wr.iterSeen b=c:=by simp[World.iterSeen,o]
   have c0:(setBlock w5 b (.mapIter (W a) 3 (c.push e.born) 3)).iterSeen b=c.push e.born:=by simp only[World.iterSeen,G]
   rw[M,D]at a5 bx;obtain⟨c3,b8⟩:=zx2 D a4;clear C l a3 M D a4 o E ab X m;generalize hWX:(setBlock w5 b (.mapIter (W a) 3 (c.push e.born) 3))=wx at *;by_cases z:v=d
   ·subst z
    have b0:k=A:=b8.out rfl;subst b0
    go_wp2_with fail
    go_ret
    exact⟨rfl,ac⟩
   ·have c6:(d==v)=false:=by simpa using λe=>z e.symm
    have dp:¬d=v:=λe=>z e.symm
    go_wp2_with fail
    go_roundw
    case rel=>
     refine⟨c.push e.born,3,G,η _,L,ac,λx g cc=>?_⟩;rcases b5.out x g cc with T|rfl
     ·exact T
     ·rw[c3.out]
      intro e;injection e with _ e;exact z e
    case measure=>rw[c0,c1];exact bk
end
theorem vK(s:ByteArray)(q:Int)(p:Nat)(z:UInt8)(m:Nat)(d:s.size<=1000000)(a:Tp.escd (s.data.toList.drop p)=W (z,m))(w:World)(f:Glob w):
 Calls π 329 #[rdV s q,V I (p:Int)] w λe w'=>e=ρ (yD (z.toNat:Int) ((p+m:Nat):Int))/\Below w.heap.size w w':=by
 have i:∀k,(s.data.toList.drop p)[k]? =s.data.toList[p+k]?:=λk=>List.getElem?_drop;obtain⟨l,C⟩:∃l,s.data.toList.drop p=l:=⟨_,rfl⟩;rw[C]at a i
 match l,a with
 |c::t,a=>
  have g:s.data.toList[p]? =W c:=(i 0).symm;unfold Tp.escd at a;simp only at a;by_cases n:c.toNat=34\/c.toNat=92
  ·rw[if_pos n]at a
   injection a with a;injection a with e1 e2;subst e1 e2;rw[show ((p+1:Nat):Int)=(p:Int)+1 by omega];exact t8 s q p c d g n w f
  rw[if_neg n]at a;by_cases u:c.toNat=110
  ·rw[if_pos u]at a
   injection a with a;injection a with e1 e2;subst e1 e2;rw[show ((p+1:Nat):Int)=(p:Int)+1 by omega];exact jo s q p c 10 d g (by unfold Am;omega) w f
  rw[if_neg u]at a;by_cases A:c.toNat=116
  ·rw[if_pos A]at a
   injection a with a;injection a with e1 e2;subst e1 e2;rw[show ((p+1:Nat):Int)=(p:Int)+1 by omega];exact jo s q p c 9 d g (by unfold Am;omega) w f
  rw[if_neg A]at a;by_cases v:c.toNat=114
  ·rw[if_pos v]at a
   injection a with a;injection a with e1 e2;subst e1 e2;rw[show ((p+1:Nat):Int)=(p:Int)+1 by omega];exact jo s q p c 13 d g (by unfold Am;omega) w f
  rw[if_neg v]at a;by_cases o:c.toNat=120
  ·rw[if_pos o]at a
   match t,a with
   |h::l2::t2,a=>
    simp only at a;cases j:Tp.unhexD h with
    |none=>rw[j]at a;simp at a
    |some x=>
     cases b:Tp.unhexD l2 with
     |none=>rw[j,b]at a;simp at a
     |some y=>
      rw[j,b]at a;simp only at a;by_cases r:x < 8
      ·rw[if_pos r]at a
       injection a with a;injection a with e1 e2;subst e1 e2;have D:s.data.toList[p]? =W 120:=by rw[g,show c=120 from UInt8.toNat_inj.1 o]
       have E:y < 16:=by
        unfold Tp.unhexD at b;split at b
        ·injection b with b;omega
        ·split at b
         ·injection b with b;omega
         ·simp at b
       have:=t7 s q p h l2 x y d D (i 1).symm (i 2).symm j b r w f;rw[show (UInt8.ofNat (16 * x+y)).toNat=16 * x+y by rw[UInt8.toNat_ofNat'];exact Nat.mod_eq_of_lt (by omega),show ((p+3:Nat):Int)=(p:Int)+3 by omega];exact this
      ·rw[if_neg r]at a;simp at a
   | [],a=>simp at a
   | [_],a=>simp at a
  ·rw[if_neg o]at a;simp at a
def yZ(a:Int):Int:=if a<=127 then 1 else if a<=2047 then 2 else if a<=65535 then 3 else 4
theorem mc(a:Int)(g:0<=a)(f:a < 55296\/(57343 < a/\a<=1114111))(w:World):Calls π 330 #[V .i32 a] w λe w'=>e=ρ (V I (yZ a))/\w'=w:=by
 obtain⟨c,b⟩:∃c,yZ a=c:=⟨_,rfl⟩;have d:=zD b;rw[b];clear b;have j:¬a < 0:=by omega
 have i:a<=1114111:=by omega
 go_enter func330,ntmps330
 go_wp2_with fail
 all_goals (go_ret;have:=d.out;unfold yZ at this;simp;omega)
def yW(q:UInt8)(s:ByteArray)(p:Nat)(a:Int)(b:Nat):Prop:=
 p < s.size/\Ln.dec (s.data.toList.drop p)≠(65533,1)/\a=((Ln.dec (s.data.toList.drop p)).1:Int)/\b=p+(Ln.dec (s.data.toList.drop p)).2/\32<=a/\a≠127/\a≠(q.toNat:Int)/\a≠92
def Av(s:ByteArray)(p:Nat)(b:Int)(c:Nat):Prop:=s.data.toList[p]? =W 92/\∃a m,Tp.escd (s.data.toList.drop (p+1))=W (a,m)/\b=(a.toNat:Int)/\c=p+1+m
theorem j5(q:UInt8)(s:ByteArray)(p:Nat)(a:Int)(g:Nat)(f:yW q s p a g):(p:Int)+yZ a=(g:Int)/\(a < 55296\/(57343 < a/\a<=1114111))/\Lib.runeCells a=Lib.byteCells ((s.data.toList.drop p).take (g - p)):=by
 obtain⟨r,k,n,l,t,_⟩:=f;have j:s.data.toList.drop p≠[]:=by intro e;have:=congrArg List.length e;rw[zZ,ap]at this;simp at this;omega
 have o:=Ln.dX _ j;have i:=Lib.encode_decode _ j (by rw[<-uk];intro f;exact k (Prod.ext f.1 f.2));rw[<-uk,<-n]at i;have m:a < 55296\/(57343 < a/\a<=1114111):=by
  have:=Lib.decodeN_valid (s.data.toList.drop p).length (Ln.nat (s.data.toList.drop p) 0) (Ln.nat (s.data.toList.drop p) 1) (Ln.nat (s.data.toList.drop p) 2) (Ln.nat (s.data.toList.drop p) 3) (Ln.kq _ _);change (Ln.dec (s.data.toList.drop p)).1 < 55296\/(57343 < (Ln.dec (s.data.toList.drop p)).1/\(Ln.dec (s.data.toList.drop p)).1<=1114111)at this
  omega
 refine⟨?_,m,?_⟩
 ·have b:=congrArg List.length i
  rw[List.length_take_of_le o]at b;unfold Lib.encodeRune at b;rw[List.length_map]at b;unfold yZ;by_cases c:a<=127
  ·rw[Lib.encodeRuneZ_one (by omega) c]at b
   simp at b
   rw[if_pos c];omega
  ·by_cases d:a<=2047
   ·rw[Lib.encodeRuneZ_two (by omega) d]at b
    simp at b
    rw[if_neg c,if_pos d];omega
   ·by_cases c3:a<=65535
    ·rw[Lib.encodeRuneZ_three (by omega)]at b
     simp at b
     rw[if_neg c,if_neg d,if_pos c3];omega
    ·rw[Lib.encodeRuneZ_four (by omega) (by omega)]at b
     simp at b
     rw[if_neg c,if_neg d,if_neg c3];omega
 ·rw[l,show p+(Ln.dec (s.data.toList.drop p)).2 - p=(Ln.dec (s.data.toList.drop p)).2 by omega,<-i,Lib.byteCells_encodeRune]
theorem ke(q:UInt8)(F:q=34\/q=39)(s:ByteArray)(p:Nat)(a:Int)(b:Nat)(P:s.size<=1000000)(z:yW q s p a b)(w:World)(x:Glob w):
 Calls π 319 #[rdV s (q.toNat:Int),V I (p:Int)] w λe w'=>e=ρ (yD a (b:Int))/\Below w.heap.size w w':=by
 obtain⟨t,n,_⟩:=j5 q s p a b z;obtain⟨H,C,u,G,o,y,m,L⟩:=z;have c:=dZ s (q.toNat:Int) p (by omega) P;unfold atR at c;rw[if_pos H,<-u]at c;have E:b<=s.size:=by
  have A:s.data.toList.drop p≠[]:=by intro e;have:=congrArg List.length e;rw[zZ,ap]at this;simp at this;omega
  have R:=Ln.dX _ A;rw[zZ,ap]at R;omega
 have ad:¬(s.size:Int)<=(p:Int):=by omega
 have S:(a==(q.toNat:Int))=false:=by simpa using m
 have ac:(a==92)=false:=by simpa using L
 obtain⟨Q,l⟩:∃Q:Int,(q.toNat:Int)=Q:=⟨_,rfl⟩;rw[l]at c S ⊢;have d:=em a;rw[show (decide (32<=a)&&!decide (a=127))=true by simp;exact⟨o,y⟩]at d;have r:=mc a (by omega) n;have al:IntKind.i64.wrap ((p:Int)+yZ a)=(b:Int):=by rw[t];exact zU _ (by omega)
 generalize yZ a=X at *;generalize (b:Int)=a0 at *;have g:=(ζ w.heap.size w).alloc (η _) (J #[U s,Value.int .i32 Q] 466);have k:=zD (c _ (x.step g));obtain⟨j,M,D⟩:=zx3 g d r;unfold rdV at k ⊢;unfold yD;clear c g x C u G o y m E t n d r F l
 go_enter func319,ntmps319
 go_wp2_with fail
 refine k.out.mono ?_;rintro e T ⟨rfl,i⟩;have v:=j.out.trans (i.mono j.out.size);have f:=(i.block w.heap.size (by simp)).trans (af w _);have N:=zD v;have av:=zF f 0 rfl;have an:=zF f 1 rfl;clear i v f
 go_wp2_with fail
 refine(M.out _).mono ?_;rintro e ao ⟨rfl,rfl⟩
 go_wp2_with fail
 refine(D.out _).mono ?_;rintro e ab ⟨rfl,rfl⟩
 go_wp2_with fail
 go_ret
 exact⟨rfl,N.out⟩
theorem vi(s:ByteArray)(p:Nat)(j:Int)(l:Nat)(u:s.size<=1000000)(z:Av s p j l)(w:World)(g:Glob w):
 Calls π 319 #[rdV s 34,V I (p:Int)] w λe w'=>e=ρ (yD j (l:Int))/\Below w.heap.size w w':=by
 obtain⟨x,q,m,v,rfl,rfl⟩:=z;obtain⟨r,N⟩:=gy s p 92 x (by decide);have a:=dZ s 34 p (by omega) u;rw[r,show ((92:UInt8).toNat:Int)=92 from rfl]at a;have o:=vK s 34 (p+1) q m u v;have F:IntKind.i64.wrap ((p:Int)+1)=((p+1:Nat):Int):=by rw[show (p:Int)+1=((p+1:Nat):Int)by omega];exact zU _ (by omega)
 have E:¬(s.size:Int)<=(p:Int):=by omega
 generalize ((p+1:Nat):Int)=M at *;generalize ((p+1+m:Nat):Int)=D at *;generalize (q.toNat:Int)=G at *;have d:=(ζ w.heap.size w).alloc (η _) (J #[U s,V .i32 34] 466);have n:=zD (a _ (g.step d));obtain⟨k,y,b⟩:=zx3 d g o;unfold rdV at n b ⊢;unfold yD at b ⊢;clear a d g r x v o
 go_enter func319,ntmps319
 go_wp2_with fail
 refine n.out.mono ?_;rintro e C ⟨rfl,i⟩;have t:=k.out.trans (i.mono k.out.size);have c:=(i.block w.heap.size (by simp)).trans (af w _);have f:=zD t;have H:=zF c 0 rfl;have L:=zF c 1 rfl;clear i t c
 go_wp2_with fail
 refine(b.out _ (y.out.step f.out)).mono ?_;rintro e P ⟨rfl,A⟩
 go_wp2_with fail
 go_ret
 exact⟨rfl,f.out.trans (A.mono f.out.size)⟩
def Aj(a:Int):Value:=.iface 473 (γ #[V I a])
theorem qS(s:ByteArray)(p:Nat)(m:s.size<=1000000)(l:s.data.toList[p]? =W 34)(w:World)(k:Glob w):
 Calls π 319 #[rdV s 34,V I (p:Int)] w λe w'=>e=ρ (Aj ((p+1:Nat):Int))/\Below w.heap.size w w':=by
 obtain⟨i,x⟩:=gy s p 34 l (by decide);have a:=dZ s 34 p (by omega) m;rw[i,show ((34:UInt8).toNat:Int)=34 from rfl]at a;have r:IntKind.i64.wrap ((p:Int)+1)=((p+1:Nat):Int):=by rw[show (p:Int)+1=((p+1:Nat):Int)by omega];exact zU _ (by omega)
 have q:¬(s.size:Int)<=(p:Int):=by omega
 generalize ((p+1:Nat):Int)=v at *;have c:=(ζ w.heap.size w).alloc (η _) (J #[U s,V .i32 34] 466);have g:=zD (a _ (k.step c));have f:=zD c;unfold rdV at g ⊢;unfold Aj;clear a c k i l
 go_enter func319,ntmps319
 go_wp2_with fail
 refine g.out.mono ?_;rintro e o ⟨rfl,d⟩;have j:=f.out.trans (d.mono f.out.size);have b:=(d.block w.heap.size (by simp)).trans (af w _);have n:=zD j;have t:=zF b 0 rfl;have u:=zF b 1 rfl;clear d j b
 go_wp2_with fail
 go_ret
 exact⟨rfl,n.out⟩
theorem wW(s:ByteArray)(i:Nat)(c:s.data.toList[i]?≠W 39):atR s i≠39:=by
 unfold atR;by_cases b:i < s.size
 ·rw[if_pos b]
  rw[<-ap]at b;rw[zE b]at c;rw[zW b];generalize s.data.toList[i]=a at c ⊢;generalize s.data.toList.drop (i+1)=t;by_cases d:a.toNat < 128
  ·rw[Ln.aM a t d]
   intro e;exact c (by rw[show a=39 from UInt8.toNat_inj.1 (by show a.toNat=39;simp only at e;omega)])
  ·obtain⟨g,f⟩:=Ln.c8 (a::t) (show 128<=a.toNat by omega)
   omega
 ·rw[if_neg b];decide
theorem qR(s:ByteArray)(p:Nat)(u:s.size<=1000000)(y:s.data.toList[p]? =W 39)(v:s.data.toList[p+1]?≠W 39)(w:World)(k:Glob w):
 Calls π 319 #[rdV s 39,V I (p:Int)] w λe w'=>e=ρ (Aj ((p+1:Nat):Int))/\Below w.heap.size w w':=by
 obtain⟨r,N⟩:=gy s p 39 y (by decide);have d:=dZ s 39 p (by omega) u;rw[r,show ((39:UInt8).toNat:Int)=39 from rfl]at d;have G:IntKind.i64.wrap ((p:Int)+1)=((p+1:Nat):Int):=by rw[show (p:Int)+1=((p+1:Nat):Int)by omega];exact zU _ (by omega)
 have D:¬(s.size:Int)<=(p:Int):=by omega
 have f:=dZ s 39 (p+1) (by omega) u;obtain⟨c,g⟩:∃c,atR s (p+1)=c:=⟨_,rfl⟩;have E:(c==39)=false:=by rw[<-g];simpa using wW s (p+1) v
 rw[g]at f;generalize ((p+1:Nat):Int)=M at *;have i:=(ζ w.heap.size w).alloc (η _) (J #[U s,V .i32 39] 466);have q:=zD (d _ (k.step i));obtain⟨o,n,z⟩:=zx3 i f k;unfold rdV at q n ⊢;unfold Aj;clear d f i k r y v g
 go_enter func319,ntmps319
 go_wp2_with fail
 refine q.out.mono ?_;rintro e C ⟨rfl,l⟩;have t:=o.out.trans (l.mono o.out.size);have a:=(l.block w.heap.size (by simp)).trans (af w _);have j:=zD t;have H:=zF a 0 rfl;have L:=zF a 1 rfl;have x:=zD a;clear l t a
 go_wp2_with fail
 refine(n.out _ (z.out.step j.out)).mono ?_;rintro e R ⟨rfl,m⟩;have A:=j.out.trans (m.mono j.out.size);have b:=(m.block w.heap.size (lt_of_heap x.out)).trans x.out;have P:=zF b 0 rfl;have F:=zF b 1 rfl;clear m b
 go_wp2_with fail
 go_ret
 exact⟨rfl,A⟩
theorem vj(q:UInt8)(d:q=34\/q=39)(s:ByteArray)(p:Nat)(a:s.size<=1000000)(b:s.data.toList[p]? =W q)(f:q=39->s.data.toList[p+1]?≠W 39)(w:World)(c:Glob w):
 Calls π 319 #[rdV s (q.toNat:Int),V I (p:Int)] w λe w'=>e=ρ (Aj ((p+1:Nat):Int))/\Below w.heap.size w w':=by
 rcases d with rfl|rfl
 ·exact qS s p a b w c
 ·exact qR s p a b (f rfl) w c
section
attribute [local go_sem ↓] Go.wp_at_zero Go.wp_at_succ
attribute [local go_sem] ak
theorem Glob.far{D:NS}{b c:World}(a:Glob b)(d:Far D b c)(e:∀k,k < 10->¬D k):Glob c:=a.keep (d.to_below a.1 e) (η _)
theorem jl{D:NS}{a b:World}(c:Below a.heap.size a b):Far D a b:=(ξ _ a).below c
def A2(q:UInt8)(s:ByteArray)(p:Nat)(x:Int × Nat):Prop:=yW q s p x.1 x.2\/(q=34/\Av s p x.1 x.2)
def zy(q:UInt8)(s:ByteArray):Nat->List (Int × Nat)->Nat->Prop
 |p,[],e=>(s.data.toList[p]? =W q/\(q=39->s.data.toList[p+1]?≠W 39))/\e=p+1
 |p,x::l,e=>A2 q s p x/\zy q s x.2 l e
theorem rO(l:Tp.B)(b:UInt8)(m:Nat)(a:Tp.escd l=W (b,m)):1<=m/\m<=l.length:=by
 unfold Tp.escd at a
 match l,a with
 |c::t,a=>
  simp only at a;split at a
  ·injection a with a;injection a with _ a;subst a;simp
  split at a
  ·injection a with a;injection a with _ a;subst a;simp
  split at a
  ·injection a with a;injection a with _ a;subst a;simp
  split at a
  ·injection a with a;injection a with _ a;subst a;simp
  split at a
  ·match t,a with
   |x::y::t2,a=>
    simp only at a;split at a
    ·split at a
     ·injection a with a;injection a with _ a;subst a;simp
     ·simp at a
    ·simp at a
   | [],a=>simp at a
   | [_],a=>simp at a
  ·simp at a
theorem uS(q:UInt8)(s:ByteArray)(p:Nat)(x:Int × Nat)(a:A2 q s p x):p < x.2/\x.2<=s.size:=by
 rcases a with a|a
 ·obtain⟨d,b,n,j,_⟩:=a
  have c:s.data.toList.drop p≠[]:=by intro e;have:=congrArg List.length e;rw[zZ,ap]at this;simp at this;omega
  have g:=Ln.dX _ c;have o:=Ln.dq (s.data.toList.drop p);rw[zZ,ap]at g;omega
 ·obtain⟨_,i,l,m,f,_,k⟩:=a
  have d:=(gy s p 92 i (by decide)).2;have b:=rO _ _ _ f;rw[zZ,ap]at b;omega
theorem bA(q:UInt8)(d:q=34\/q=39)(s:ByteArray)(p:Nat)(x:Int × Nat)(b:s.size<=1000000)(a:A2 q s p x)(w:World)(c:Glob w):
 Calls π 319 #[rdV s (q.toNat:Int),V I (p:Int)] w λe w'=>e=ρ (yD x.1 (x.2:Int))/\Below w.heap.size w w':=by
 rcases a with a|⟨rfl,a⟩
 ·exact ke q d s p _ _ b a w c
 ·exact vi s p _ _ b a w c
def Aq(a:List (Int × Nat))(e:Nat)(t:Nat):Value:=match a[t]? with
 |some x=>yD x.1 (x.2:Int)
 |none=>Aj (e:Int)
def Ae(w:World)(a:Nat):Nat:=(Lib.intOf ((w.cell? ⟨a,0,O⟩).getD undef)).toNat
theorem vk(b n:Int)(a:World):(Go.method 469 471 (γ #[V .i32 b,V I n]) "sigillary/quote.next").run π a=.ok (394,γ #[V .i32 b,V I n]) a:=by kernel_rfl
theorem we(b n:Int)(a:World):(Instr.typeAssert (.iface 471 (γ #[V .i32 b,V I n])) 469 471 true).run π a=.ok (.tuple #[γ #[V .i32 b,V I n],β true]) a:=by kernel_rfl
theorem v8(n:Int)(a:World):(Instr.typeAssert (.iface 473 (γ #[V I n])) 469 471 true).run π a=.ok (.tuple #[γ #[V .i32 0,V I 0],β false]) a:=by kernel_rfl
theorem tM(a n:Int)(w:World):Calls π 394 #[γ #[V .i32 a,V I n]] w λe w'=>e=ρ (V I n)/\Below w.heap.size w w':=by
 go_enter func394,ntmps394
 go_wp2
 go_ret
 exact⟨rfl,(ζ _ _).alloc (η _) _⟩
theorem oI(s:ByteArray)(q p:Int)(w:World):Calls π 303 #[rdV s q,V I p] w λe w'=>e=ρ (φ (.func 318) #[] #[Z (W ⟨w.heap.size,0,O⟩),Z (W ⟨w.heap.size+1,0,O⟩)])/\w'=(w.alloc (J #[U s,V .i32 q] 466)).alloc (J #[V I p] 3):=by
 unfold rdV
 go_enter func303,ntmps303
 go_wp2
 go_ret
 exact⟨rfl,rfl⟩
def PcE(c:List (Int × Nat))(g e i:Nat)(t:Nat)(v:Array Value)(d:NS)(b:World):Prop:=
 (v=#[Aq c g t]/\d=xO)/\(∃a f,b.heap[e]? =W (J #[a,f] 466 (0,0)))/\∃n,b.heap[i]? =W (J #[n] 3 (0,0))
theorem mn(q:UInt8)(bD:q=34\/q=39)(s:ByteArray)(cm:s.size<=1000000)(f:List (Int × Nat))(ao b1 g b:Nat)(eq:g≠b)(fz:10<=g)(ei:10<=b)(d4:zy q s b1 f ao)(w:World)(M:w.heap[g]? =some (.cells #[U s,V .i32 (q.toNat:Int)] 466 (0,0)))(an:w.heap[b]? =some (.cells #[V I (b1:Int)] 3 (0,0)))(a6:Glob w):
 yQ π 318 #[Z (some ⟨g,0,O⟩),Z (some ⟨b,0,O⟩)] 3 (f.length+1) (PcE f ao g b) (·=b) (λk=>k < 10\/k=g) False (λ_ _=>True) (λ_=>True) w:=by
 intro l J e8 cb W al d1 hF0 a5 dn df cl e0;have dc:∀k,cb k->10<=k/\k≠g/\k≠b:=λk a=>by have:=hF0 k a;omega
 replace M:=(al.block _ (lt_of_heap M)).trans M
 replace an:=(al.block _ (lt_of_heap an)).trans an
 replace a6:=a6.step al
 obtain⟨base,cc⟩:∃d6,w.heap.size=d6:=⟨_,rfl⟩;rw[cc]at a5 dn;have b5:=bA q bD s;have bk:=vj q bD s;obtain⟨Q,bx⟩:∃Q:Int,(q.toNat:Int)=Q:=⟨_,rfl⟩;rw[bx]at M;simp only[bx]at b5 bk;obtain⟨v,b0⟩:∃v,f.length=v:=⟨_,rfl⟩;obtain⟨bs,c3,fr,F,dv,ds⟩:=zx6 a5 cl df b0 b5 bk;have d0:=zD dc;rw[b0];clear a5 cl b0 bD bx b5 bk dc hF0 df dn al d1 cc
 go_enter func318,ntmps318
 go_wp2_with fail
 go_step3
 go_wp2_with fail
 go_step3
 go_wp2_with fail
 go_loopw [] (λwr=>∃(t p:Nat) (i:NS),wr.heap[g]? =some (.cells #[U s,V .i32 Q] 466 (0,0))/\wr.heap[b]? =some (.cells #[V I (p:Int)] 3 (0,0))/\zy q s p (f.drop t) ao/\t<=v/\Glob wr/\J t i wr/\(∀k,i k->10<=k/\k≠g/\k≠b)) (λwr=>s.size+1 - Ae wr b)
 case atStart=>exact⟨0,b1,cb,M,an,d4,z_ _,a6,e0,d0.out⟩
 case round=>
  obtain⟨t,p,i,y,G,a0,fs,A,av,ck⟩:=hrel;have c9:=zF y 0 rfl;have ch:=zF y 1 rfl;have a3:=zF G 0 rfl;have e3:Ae wr b=p:=by simp[Ae,a3,Lib.intOf]
  have ac:=zD ck;clear ck;by_cases ab:t < v
  ·have a9:t < f.length:=by rw[F.out];exact ab
   have c4:RowKit.Hid (t+1<=v):=zD ab;rw[zW a9]at a0;obtain⟨r,a2⟩:=a0;obtain⟨x,o⟩:∃x,f[t]'a9=x:=⟨_,rfl⟩;rw[o]at r a2;have c6:f[t]? =some x:=by rw[zE a9,o]
   have e2:=uS q s p x r;have d:=dv.out p x cm r wr A;have m:Aq f ao t=yD x.1 (x.2:Int):=by unfold Aq;rw[c6]
   obtain⟨j,n⟩:=x;have d5:=vk j (n:Int);have co:=we j (n:Int);have b2:=tM j (n:Int);simp only at d e2 a2 d5 b2 m co;unfold yD at d m;unfold rdV at d;obtain⟨b3,ex,bn,es,d3,P⟩:=zx6 m a2 d b2 A y;have S:=zD G;clear r a2 d o c6 b2 A y G ab m
   go_wp2_with fail
   refine bn.out.mono ?_;rintro e H ⟨rfl,c⟩;have L:J t i (H.alloc (.cells #[V .i32 j,V I (n:Int)] 471)):=bs.out t i _ _ av ((jl c).alloc _);have N:=aa (.cells #[V .i32 j,V I (n:Int)] 471) ((c.block _ (lt_of_heap P.out)).trans P.out);have z:=aa (.cells #[V .i32 j,V I (n:Int)] 471) ((c.block _ (lt_of_heap S.out)).trans S.out);have da:=d3.out.step (c.alloc c.size (.cells #[V .i32 j,V I (n:Int)] 471));obtain⟨e5,D,E,bw⟩:=zx4 da N z L;clear da N z L c av c9 ch a3
   go_upto_region 2 with (fail)
   refine(wpIn_wide (n:=4)).1 ?_;generalize hW1:(H.alloc (.cells #[V .i32 j,V I (n:Int)] 471))=b4 at *;obtain⟨e4,er,assign,body,ba,T⟩:=c3.out t (by rw[F.out];exact zK (Nat.lt_of_succ_le c4.out) (Nat.le_succ _)) i xO _ b4 bw.out ⟨⟨rfl,rfl⟩,⟨_,_,D.out⟩,_,E.out⟩ (λ_ a=>a.elim);rw[b3.out]at ba;have bR:=zD T;clear T
   gi_wp2
   refine(bR.out).mono ?_;rintro e a4 ⟨u,⟨C,be⟩,(⟨rfl,a1⟩|⟨rfl,o⟩)⟩
   ·have c0:=C.heap D.out (λa=>(ac.out _ a).2.1 rfl)
    have c5:=C.heap E.out (λa=>(ac.out _ a).2.2 rfl);have ct:=e5.out.far C (λk fn a=>by have:=(ac.out _ a).1;omega);have b9:∀k,u k->10<=k/\k≠g/\k≠b:=by
     intro k a;rcases be k a with a|a|a
     ·exact ac.out k a
     ·exact a.elim
     ·have e9:=lt_of_heap D.out
      have ft:=lt_of_heap E.out;omega
    obtain⟨c1,e1,dp,cf,b6⟩:=zx5 b9 a1 ct c0 c5;clear a1 C be b9 ct c0 c5
    gi_wp2
    go_wp2_with fail
    refine(es.out a4).mono ?_;rintro e eg ⟨rfl,R⟩;have X:=(R.block _ (lt_of_heap b6.out)).trans b6.out;have b8:=(R.block _ (lt_of_heap cf.out)).trans cf.out;have fv:=zF X 0 rfl;have fl:=ag X 0;have c2:=bs.out (t+1) u _ _ e1.out ((jl R).setCell (p:=⟨b,0,O⟩) (λ_=>⟨λa=>(c1.out _ a).2.2 rfl,.inl rfl⟩) (V I (n:Int)));have cv:=dp.out.keep ((R.mono (show 10<=a4.heap.size from dp.out.1)).setCell (p:=⟨b,0,O⟩) ei (V I (n:Int))) (η _);obtain⟨en,e6,db,d2⟩:=zx4 cv c2 X b8;clear c2 cv X b8 R
    go_wp2_with fail
    go_roundw
    case rel=>exact⟨t+1,n,u,(Below.heap_setCell _ _ _ _ eq).trans d2.out,ai db.out 0 _,ex.out,c4.out,en.out,e6.out,c1.out⟩
    case measure=>
     rw[show Ae (eg.setCell ⟨b,0,O⟩ (V I (n:Int))) b=n by simp[Ae,ae (ai db.out 0 (V I (n:Int))) 0,Lib.intOf],e3];omega
   ·gi_wp2
    go_wp2_with fail
    rw[Exit.noGoto_normal]
    go_end0
    exact⟨⟨_,rfl⟩,.inr ⟨u,o⟩⟩
  ·have dr:t=v:=by omega
   subst dr;rw[List.drop_eq_nil_of_le (by rw[F.out];omega)]at a0;obtain⟨⟨r,ca⟩,rfl⟩:=a0;have d:=ds.out p cm r ca wr A;obtain⟨ad,bb⟩:∃ad:Int,((p+1:Nat):Int)=ad:=⟨_,rfl⟩;have m:Aq f (p+1) t=Aj ad:=by unfold Aq;rw[show f[t]? =O from List.getElem?_eq_none (by rw[F.out];omega),<-bb]
   rw[bb]at d;have co:=v8 ad;unfold Aj at d m;unfold rdV at d;obtain⟨bn,b3,P,S⟩:=zx4 d m y G;clear r ca d A y G ab bb m
   go_wp2_with fail
   refine bn.out.mono ?_;rintro e H ⟨rfl,c⟩;have L:J t i (H.alloc (.cells #[V .i32 0,V I 0] 471)):=bs.out t i _ _ av ((jl c).alloc _);have N:=aa (.cells #[V .i32 0,V I 0] 471) ((c.block _ (lt_of_heap P.out)).trans P.out);have z:=aa (.cells #[V .i32 0,V I 0] 471) ((c.block _ (lt_of_heap S.out)).trans S.out);obtain⟨D,E,bw⟩:=zx3 N z L;clear L c av c9 ch a3 N z
   go_upto_region 2 with (fail)
   refine(wpIn_wide (n:=4)).1 ?_;generalize hW1:(H.alloc (.cells #[V .i32 0,V I 0] 471))=b4 at *;obtain⟨e4,er,assign,body,ba,T⟩:=c3.out t (by rw[F.out];omega) i xO _ b4 bw.out ⟨⟨rfl,rfl⟩,⟨_,_,D.out⟩,_,E.out⟩ (λ_ a=>a.elim);rw[b3.out]at ba;have bR:=zD T;clear T
   gi_wp2
   refine(bR.out).mono ?_;rintro e a4 ⟨u,⟨C,be⟩,(⟨rfl,a1⟩|⟨rfl,o⟩)⟩
   ·gi_wp2
    go_wp2_with fail
    rw[Exit.noGoto_normal]
    go_end0
    exact⟨⟨_,rfl⟩,.inl ⟨u,a1,trivial⟩⟩
   ·gi_wp2
    go_wp2_with fail
    rw[Exit.noGoto_normal]
    go_end0
    exact⟨⟨_,rfl⟩,.inr ⟨u,o⟩⟩
end
def Bd(B a:Nat)(b:List Value)(w:World):Prop:=
 ∃p v,(p=Z O\/p=Z (W ⟨a,0,O⟩))/\w.heap[a]? =W (J #[p,v] 38 (0,0))/\w.ownsRowF B 5 1 v b.length b/\v.ownBlock≠W a
theorem dE{w:World}{B B':Nat}{e:TypeId}{size:Nat}{v:Value}{n:Nat}{xs:List Value}(a:w.ownsRowF B e size v n xs)(i:B'<=B):w.ownsRowF B' e size v n xs:=by
 refine⟨a.1,?_⟩;rcases a.2 with d|⟨g,cap,b,c,rfl,f,rest⟩
 ·exact .inl d
 ·exact .inr ⟨g,cap,b,c,rfl,by omega,rest⟩
theorem tp{D:Nat->Prop}{w w':World}{base:Nat}{e:TypeId}{size:Nat}{v:Value}{n:Nat}{xs:List Value}(c:w.ownsRowF base e size v n xs)(j:Far D w w')(d:∀k,base<=k->k < w.heap.size->¬D k):w'.ownsRowF base e size v n xs:=by
 refine⟨c.1,?_⟩;rcases c.2 with l|⟨g,cap,i,f,rfl,a,b,rest⟩
 ·exact .inl l
 ·exact .inr ⟨g,cap,i,f,rfl,a,j.heap b (d g a (lt_of_heap b)),rest⟩
theorem Bd.far{B a:Nat}{c:List Value}{D:Nat->Prop}{w w':World}(d:Bd B a c w)(b:Far D w w')(i:¬D a)(l:∀k,B<=k->k < w.heap.size->¬D k):Bd B a c w':=by
 obtain⟨p,v,g,e,j,f⟩:=d;exact⟨p,v,g,b.heap e i,tp j b l,f⟩
theorem Bd.is{B a:Nat}{f:List Value}{w:World}(j:Bd B a f w){B':Nat}(e:B'<=B)(c:B'<=a):Lib.IsBuilderF 38 5 B' a f w:=by
 obtain⟨p,v,i,d,b,g⟩:=j;rcases i with rfl|rfl
 ·exact .inl ⟨c,v,d,dE b e,g⟩
 ·exact .inr ⟨c,v,d,dE b e,g⟩
theorem Bd.new(w:World)(a B:Nat)(b:a=w.heap.size):Bd B a [] (w.alloc (J #[Z O,Y O 0 0] 38)):=
 ⟨_,_,.inl rfl,ah _ _ _ b,World.ownsRowF_nil _ _ _ _,by simp[Value.ownBlock]⟩
theorem wV(B a:Nat)(d:List Value)(w:World)(k:Bd B a d w):
 Calls π 30 #[Z (W ⟨a,0,O⟩)] w λe w'=>e=ρ (.tuple #[])/\(∃v,w'.heap[a]? =W (J #[Z (W ⟨a,0,O⟩),v] 38 (0,0))/\w'.ownsRowF B 5 1 v d.length d/\v.ownBlock≠W a)/\Far (·=a) w w':=by
 obtain⟨p,v,q,f,b,c⟩:=k;rcases q with rfl|rfl
 ·have k:=(Bd.is (B':=0) ⟨_,v,.inl rfl,f,b,c⟩ (z_ _) (z_ _))
  have i:Lib.BuilderAtF 38 5 0 a (Z O) d w:=⟨z_ _,v,f,dE b (z_ _),c⟩;refine(gv a w i.cell0 i.shape i.frozen0).mono ?_;rintro e w' ⟨rfl,rfl⟩;have j:Far (·=a) w (w.setCell ⟨a,0,O⟩ (Z (W ⟨a,0,O⟩))):=(ξ (·=a) w).setCell (p:=⟨a,0,O⟩) (λ_=>rfl) _;refine⟨rfl,⟨v,ai f 0 _,?_,c⟩,j⟩;refine⟨b.1,?_⟩;rcases b.2 with l|⟨g,cap,o,n,rfl,m,r,rest⟩
  ·exact .inl l
  ·refine .inr ⟨g,cap,o,n,rfl,m,j.heap r (λe=>c (by rw[e];rfl)),rest⟩
 ·have i:Lib.BuilderAtF 38 5 0 a (Z (W ⟨a,0,O⟩)) d w:=⟨z_ _,v,f,dE b (z_ _),c⟩
  refine(iD a w i.cell0).mono ?_;rintro e w' ⟨rfl,rfl⟩;exact⟨rfl,⟨v,f,b,c⟩,ξ _ _⟩
theorem rN{B b:Nat}{w a c:World}{v:Value}(g:Far (·=b) w a)(i:a.grownBy c v.ownBlock)(f:∀k,v.ownBlock=W k->B<=k/\k < a.heap.size):Far (λk=>k=b\/B<=k) w c:=
 (g.mono (λ_ _ e=>.inl e)).grown i (λk d _=>.inr (f k d).1)
theorem Bd.put{B a:Nat}{p v b:Value}{bs':List Value}{w:World}(g:p=Z O\/p=Z (W ⟨a,0,O⟩))(f:w.heap[a]? =W (J #[p,v] 38 (0,0)))(c:w.ownsRowF B 5 1 b bs'.length bs'):Bd B a bs' (w.setCell ⟨a,1,O⟩ b):=by
 have d:=Lib.ownBlock_neF c f Tryz.Builder_Extra_169.neB5;refine⟨p,b,g,?_,?_,d⟩
 ·simp[World.setCell,Array.getElem?_modify,f]
 ·exact c.kept (row:=W a) ⟨rfl,rfl,rfl,by simp[World.setCell],λk _ i=>Below.heap_setCell _ _ _ _ (λe=>i (by simp[e]))⟩ (Or.inr d)
theorem xq(B a:Nat)(b:List Value)(f:Int)(E:-2147483648<=f)(G:f<=2147483647)(w:World)(H:Bd B a b w)(T:b.length+4<=140737488355328)(F:B<=w.heap.size):
 Calls π 13 #[Z (W ⟨a,0,O⟩),V .i32 f] w λe w'=>(∃n:Int,e=ρ (.tuple #[V I n,.nilIface]))/\Bd B a (b++Lib.runeCells f) w'/\Far (λk=>k=a\/B<=k) w w':=by
 go_enter func13,ntmps13
 go_wp2_with (go_at_call 30;refine(wV B a b _ H).mono ?_)
 rintro e j ⟨rfl,⟨v,l,r,y⟩,u⟩;have S:j.cell? ⟨a,0,O⟩=W (Z (W ⟨a,0,O⟩)):=by rw[Lib.cell_of_heap l];rfl
 have X:j.cell? ⟨a,1,O⟩=W v:=by rw[Lib.cell_of_heap l];rfl
 have L:=utf8_AppendRune_row B v b.length b f E G j r (by omega) (Nat.le_trans F u.size);obtain⟨i,d,cap,rfl⟩:∃i d cap,v=Y i d cap:=by
  rcases r.2 with ⟨c,_⟩|⟨g,cap,D,A,c,_⟩
  ·exact⟨_,_,_,c⟩
  ·exact⟨_,_,_,c⟩
 go_wp2_with (go_at_call 31;refine L.mono ?_)
 rintro e q ⟨z,rfl,t,o,M⟩;have x:a < j.heap.size:=lt_of_heap l;have s:=(World.grownBy_alloc j o _).trans M;have m:q.heap[a]? =W (J #[Z (W ⟨a,0,O⟩),Y i d cap] 38 (0,0)):=by
  rw[s.block a x (λe=>y e.symm)];exact l
 have ab:q.cell? ⟨a,0,O⟩=W (Z (W ⟨a,0,O⟩)):=by rw[Lib.cell_of_heap m];rfl
 have R:q.cell? ⟨a,1,O⟩=W (Y i d cap):=by rw[Lib.cell_of_heap m];rfl
 have P:q.frozen? ⟨a,1,O⟩=false:=Lib.frozen_of_heap m 1;obtain⟨ac,ad,N,rfl⟩:∃i d cap,z=Y i d cap:=by
  rcases t.2 with ⟨c,_⟩|⟨g,cap,D,A,c,_⟩
  ·exact⟨_,_,_,c⟩
  ·exact⟨_,_,_,c⟩
 go_wp2
 go_ret2
 exact⟨⟨_,rfl⟩,Bd.put (.inr rfl) m (bs':=b++Lib.runeCells f) (by simpa using t),(rN u s (λk C=>r.lt k C)).setCell (p:=⟨a,1,O⟩) (λ_=>.inl rfl) _⟩
theorem na(b:UInt8)(x:Nat)(a:Tp.unhexD b=W x):b.toNat < 128/\x < 16:=by
 unfold Tp.unhexD at a;split at a
 ·injection a with a;omega
 ·split at a
  ·injection a with a;omega
  ·simp at a
theorem tX(t:Tp.B)(f:UInt8)(m:Nat)(b:Tp.escd t=W (f,m)):f.toNat < 128/\∀g∈t.take m,g.toNat < 128:=by
 unfold Tp.escd at b
 match t,b with
 |g::t,b=>
  simp only at b;split at b
  ·injection b with b;injection b with h1 b;subst b h1
   refine⟨by omega,?_⟩;intro x c;simp at c;subst c;omega
  split at b
  ·injection b with b;injection b with h1 b;subst b h1
   refine⟨by decide,?_⟩;intro x c;simp at c;subst c;omega
  split at b
  ·injection b with b;injection b with h1 b;subst b h1
   refine⟨by decide,?_⟩;intro x c;simp at c;subst c;omega
  split at b
  ·injection b with b;injection b with h1 b;subst b h1
   refine⟨by decide,?_⟩;intro x c;simp at c;subst c;omega
  split at b
  ·match t,b with
   |x::y::t2,b=>
    simp only at b;cases c:Tp.unhexD x with
    |none=>rw[c]at b;simp at b
    |some a=>
     cases e:Tp.unhexD y with
     |none=>rw[c,e]at b;simp at b
     |some d=>
      rw[c,e]at b;simp only at b;split at b
      ·injection b with b;injection b with h1 b;subst b h1
       have j:=na _ _ c;have k:=na _ _ e;refine⟨by rw[UInt8.toNat_ofNat'];omega,?_⟩;intro z i;simp at i;rcases i with rfl|rfl|rfl<;>omega
      ·simp at b
   | [],b=>simp at b
   | [_],b=>simp at b
  ·simp at b
theorem m8(q:UInt8)(i:q.toNat < 128):∀(k:Nat) (l:Tp.B) (n:Nat) (o a:Tp.B),(∀j,j < k->128<=Ln.nat l j)->k<=l.length->Tp.unq q n l=W (o,a)->∃b d,b+k=n/\Tp.unq q b (l.drop k)=W (d,a)/\o=l.take k++d
 |0,l,n,o,a,_,_,h=>⟨n,o,rfl,h,rfl⟩
 |k+1,l,0,o,a,_,_,h=>by simp[Tp.unq]at h
 |k+1,[],n+1,o,a,_,hk,h=>by simp at hk
 |k+1,c::t,n+1,o,a,hh,hk,h=>by
  have u:=hh 0 (by omega);have m:128<=c.toNat:=u;have s:¬c=q:=λe=>by rw[e]at m;omega
  unfold Tp.unq at h;simp only at h;rw[if_neg s,if_neg (by omega),if_neg (by omega)]at h;obtain⟨x,r,f⟩:=zN.1 h;injection f with e2 e3;subst e2 e3;obtain⟨b,d,v,g,p⟩:=m8 q i k t n x.1 x.2 (λj w=>hh (j+1) (by omega)) (by simpa using hk) r;exact⟨b,d,by omega,g,by rw[p];rfl⟩
theorem go(l:Tp.B)(p:Nat)(b:UInt8)(t:Tp.B)(c:l.drop p=b::t):l[p]? =W b/\l.drop (p+1)=t/\p < l.length:=by
 have a:(l.drop p)[0]? =W b:=by rw[c];rfl
 rw[List.getElem?_drop,Nat.add_zero]at a;refine⟨a,?_,(zM.1 a).1⟩;rw[<-List.drop_drop,c];rfl
theorem cd(q:UInt8)(u:q=34\/q=39)(s:ByteArray):∀(n p:Nat) (o i:Tp.B),Ln.right (s.data.toList.drop p)=true->Tp.unq q n (s.data.toList.drop p)=W (o,i)->
 ∃f e,zy q s p f e/\p < e/\e<=s.size/\s.data.toList.drop e=i/\f.flatMap (λx=>Lib.runeCells x.1)=Lib.byteCells o/\(∀x∈f,0<=x.1/\x.1<=1114111)/\f.length+p < e/\Ln.right i=true
 |0,p,o,i,hr,a=>by simp[Tp.unq]at a
 |n+1,p,o,i,hr,a=>by
  have a6:q.toNat < 128:=by rcases u with rfl|rfl<;>decide
  obtain⟨l,d⟩:∃l,s.data.toList.drop p=l:=⟨_,rfl⟩;rw[d]at hr a
  match l,hr,a with
  | [],hr,a=>simp[Tp.unq]at a
  |c::t,hr,a=>
   obtain⟨av,w,R⟩:=go _ _ _ _ d;rw[ap]at R;have N:(c::t)≠[]:=by simp
   by_cases be:128<=c.toNat
   ·have j:Ln.dec (c::t)≠(65533,1):=λe=>by rw[Ln.cJ _ N e]at hr;cases hr
    obtain⟨ba,a1⟩:=Ln.c8 (c::t) (show 128<=c.toNat by omega);have a5:=Ln.dX _ N;have bs:=Ln.dq (c::t);obtain⟨a0,a3,ao,g,E⟩:=m8 q a6 _ (c::t) (n+1) o i a1 a5 a;rw[Ln.bF _ N j,<-d,List.drop_drop]at hr;rw[<-d,List.drop_drop]at g;rw[d]at hr g;obtain⟨f,e,C,ac,y,z,v,A,al,r⟩:=cd q u s a0 _ a3 i hr g;have k:yW q s p ((Ln.dec (c::t)).1:Int) (p+(Ln.dec (c::t)).2):=by
     refine⟨R,by rw[d];exact j,by rw[d],by rw[d],by omega,by omega,by omega,by omega⟩
    have X:=j5 q s p _ _ k;refine⟨(((Ln.dec (c::t)).1:Int),p+(Ln.dec (c::t)).2)::f,e,⟨.inl k,C⟩,by omega,y,z,?_,?_,?_,r⟩
    ·rw[List.flatMap_cons,v]
     simp only;rw[X.2.2,d,show p+(Ln.dec (c::t)).2 - p=(Ln.dec (c::t)).2 by omega,<-bc,E]
    ·intro x b
     rcases List.mem_cons.1 b with rfl|b
     ·have:=X.2.1;simp only;omega
     ·exact A x b
    ·simp only[zO];omega
   ·have S:c.toNat < 128:=by omega
    have L:Ln.right t=true:=by rw[<-Ln.aR c t S];exact hr
    unfold Tp.unq at a;simp only at a;by_cases F:c=q
    ·rw[if_pos F]at a
     by_cases M:c.toNat=39/\t.head? =W c
     ·rw[if_pos M]at a;simp at a
     rw[if_neg M]at a;injection a with a;injection a with ao g;subst ao g F;refine⟨[],p+1,⟨⟨av,λad=>?_⟩,rfl⟩,by omega,by omega,w,rfl,by simp,by simp,L⟩;rw[<-List.head?_drop,w];intro e;exact M ⟨by rw[ad];rfl,by rw[e,ad]⟩
    rw[if_neg F]at a;by_cases an:c.toNat=92
    ·rw[if_pos an]at a
     by_cases H:q.toNat=39
     ·rw[if_pos H]at a;simp at a
     rw[if_neg H]at a;have a4:q=34:=by
      rcases u with a|a
      ·exact a
      ·rw[a]at H;exact absurd rfl H
     cases D:Tp.escd t with
     |none=>rw[D]at a;simp at a
     |some bm=>
      obtain⟨G,m⟩:=bm;rw[D]at a;simp only at a;obtain⟨x,b,P⟩:=zN.1 a;injection P with g E;subst g E;obtain⟨a2,a9⟩:=tX _ _ _ D;obtain⟨bb,bk⟩:=rO _ _ _ D;have T:Ln.right (t.drop m)=true:=by
       rw[<-Ln.aS (t.take m) (t.drop m) a9,List.take_append_drop];exact L
      rw[<-w,List.drop_drop]at T b;obtain⟨f,e,C,ac,y,z,v,A,al,r⟩:=cd q u s n _ x.1 x.2 T b;have k:Av s p (G.toNat:Int) (p+1+m):=⟨by rw[av,show c=92 from UInt8.toNat_inj.1 an],G,m,by rw[w];exact D,rfl,rfl⟩;refine⟨((G.toNat:Int),p+1+m)::f,e,⟨.inr ⟨a4,k⟩,C⟩,by omega,y,z,?_,?_,?_,r⟩
      ·rw[List.flatMap_cons,v]
       simp only;rw[gw G a2,<-bc];rfl
      ·intro x b
       rcases List.mem_cons.1 b with rfl|b
       ·simp only;omega
       ·exact A x b
      ·simp only[zO];omega
    rw[if_neg (by omega)]at a;by_cases ab:c.toNat < 32\/c.toNat=127
    ·rw[if_pos ab]at a;simp at a
    rw[if_neg ab]at a;obtain⟨x,b,P⟩:=zN.1 a;injection P with g E;subst g E;rw[<-w]at L b;obtain⟨f,e,C,ac,y,z,v,A,al,r⟩:=cd q u s n _ x.1 x.2 L b;have j:=Ln.aM c t S;have k:yW q s p (c.toNat:Int) (p+1):=by
     have bn:c.toNat≠q.toNat:=λe=>F (UInt8.toNat_inj.1 e);refine⟨R,by rw[d,j];intro e;injection e with e;omega,by rw[d,j],by rw[d,j],by omega,by omega,by omega,by omega⟩
    refine⟨((c.toNat:Int),p+1)::f,e,⟨.inl k,C⟩,by omega,y,z,?_,?_,?_,r⟩
    ·rw[List.flatMap_cons,v]
     simp only;rw[gw c S,<-bc];rfl
    ·intro x b
     rcases List.mem_cons.1 b with rfl|b
     ·simp only;omega
     ·exact A x b
    ·simp only[zO];omega
def yF(s:ByteArray)(p:Nat):Bool:=decide (p=0)||yC s (p - 1) [32]
theorem bf(s:ByteArray)(p:Nat)(b:UInt8)(c:s.data.toList[p]? =W b)(a:List UInt8):yC s p a=a.contains b:=by unfold yC;rw[c]
theorem sp(s:ByteArray)(p d:Nat)(a:UInt8)(t:Tp.B)(b:s.data.toList.drop p=a::t):
 Az s p d=((a.toNat==35&&yF s p)||(a.toNat==58&&Tp.closed d t)||(decide (0 < d)&&Tp.flowC a)):=by
 obtain⟨c,o,q⟩:=go _ _ _ _ b;rw[ap]at q;unfold Az y7;rw[bf s p a c,bf s p a c,bf s p a c,o,decide_eq_false (by omega)];unfold yF Tp.flowC;rw[Bool.false_or];have e:∀n:Nat,n < 256->(a==UInt8.ofNat n)=(a.toNat==n):=by
  intro n r;rw[Bool.eq_iff_iff];simp only[beq_iff_eq];constructor
  ·intro b;rw[b,UInt8.toNat_ofNat'];omega
  ·intro b;rw[<-b];exact UInt8.ofNat_toNat.symm
 have k:=e 35 (by decide);have f:=e 58 (by decide);have g:=e 44 (by decide);have i:=e 91 (by decide);have j:=e 93 (by decide);have l:=e 123 (by decide);have m:=e 125 (by decide);simp only[show (UInt8.ofNat 35)=35 from rfl,show (UInt8.ofNat 58)=58 from rfl,show (UInt8.ofNat 44)=44 from rfl,show (UInt8.ofNat 91)=91 from rfl,show (UInt8.ofNat 93)=93 from rfl,show (UInt8.ofNat 123)=123 from rfl,show (UInt8.ofNat 125)=125 from rfl]at k f g i j l m;simp only[List.contains_cons,List.contains_nil,Bool.or_false,k,f,g,i,j,l,m,Bool.or_assoc]
theorem fJ(s:ByteArray)(p:Nat)(a:UInt8)(b:s.data.toList[p]? =W a):yF s (p+1)=(a.toNat==32):=by
 unfold yF;rw[decide_eq_false (by omega),Bool.false_or,show p+1 - 1=p by omega,bf s p a b,Bool.eq_iff_iff];simp[List.contains_cons,<-UInt8.toNat_inj]
theorem fH(s:ByteArray)(d:Nat):∀(l:Tp.B) (p:Nat),s.data.toList.drop p=l->(∀i,i < Tp.ptake d (yF s p) l->Az s (p+i) d=false)/\Az s (p+Tp.ptake d (yF s p) l) d=true/\p+Tp.ptake d (yF s p) l<=max p s.size
 | [],p,h=>by
  have o:s.size<=p:=by
   have:=congrArg List.length h;rw[zZ,ap]at this;simp at this
   omega
  refine⟨λi b=>by simp[Tp.ptake]at b,?_,by simp[Tp.ptake];omega⟩;simp only[Tp.ptake,Nat.add_zero];unfold Az;rw[decide_eq_true o];simp
 |c::t,p,h=>by
  obtain⟨m,j,n⟩:=go _ _ _ _ h;rw[ap]at n;have f:=sp s p d c t h;rw[Tp.ptake];by_cases a:((c.toNat==35&&yF s p)||(c.toNat==58&&Tp.closed d t)||(decide (0 < d)&&Tp.flowC c))=true
  ·rw[if_pos a]
   exact⟨λi b=>by omega,by rw[Nat.add_zero,f,a],by omega⟩
  ·rw[if_neg a]
   have q:=fJ s p c m;obtain⟨e,g,k⟩:=fH s d t (p+1) j;rw[q]at e g k;refine⟨λi b=>?_,by rw[show p+(Tp.ptake d (c.toNat==32) t+1)=p+1+Tp.ptake d (c.toNat==32) t by omega];exact g,by omega⟩;rcases Nat.eq_zero_or_pos i with rfl|r
   ·rw[Nat.add_zero,f]
    exact Bool.eq_false_iff.2 a
   ·rw[show p+i=p+1+(i - 1)by omega]
    exact e (i - 1) (by omega)
theorem fe(l:Tp.B)(b:UInt8)(d:b∈l):b∈Tp.trimR l\/b=32:=by
 unfold Tp.trimR;have a:b∈l.reverse:=by simpa using d
 rw[<-List.takeWhile_append_dropWhile (p:=λx:UInt8=>x.toNat==32) (l:=l.reverse)]at a;rcases List.mem_append.1 a with a|a
 ·right
  have c:=(List.all_eq_true.1 (List.all_takeWhile (p:=λx:UInt8=>x.toNat==32) (l:=l.reverse))) b a;exact UInt8.toNat_inj.1 (by simpa using c)
 ·left
  simpa using a
theorem pO(l:Tp.B):Lib.trimRightB l 32=Tp.trimR l:=by
 unfold Lib.trimRightB Tp.trimR;congr 2
 funext x
 rw[Bool.eq_iff_iff];simp[<-UInt8.toNat_inj]
end Go.Proofs.YtbikgdhbiebhcaaGreatDoor
