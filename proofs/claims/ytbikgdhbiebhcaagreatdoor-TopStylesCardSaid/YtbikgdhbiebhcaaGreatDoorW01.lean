/- Part 1. -/
import Derived.Test.YtbikgdhbiebhcaaGreatDoorW00
import Derived.Lib.Strings
import Derived.Lib.MapLaws
import Derived.Lib.RuneBytes
import Derived.Deep.RegionHeld3
import Derived.Laws.StructEq
import Derived.KernelRfl
import Derived.Lib.AppendIntMem
import Derived.Lib.SlBytesConst
set_option linter.unusedVariables false
set_option linter.unusedSimpArgs false
set_option maxRecDepth 100000
set_option maxHeartbeats 2000000
open Go.Value renaming int -> V, string -> U, slice -> Y, pointer -> Z, agg -> γ, bool -> β
open Go.IntKind renaming i64 -> I
open Option renaming some -> W, none -> O
open Go.Obj renaming cells -> J
open Go.Ending renaming returned -> ρ
open Go.Proofs.Tryz renaming prog -> π
open Nat renaming le_refl -> η
open Go.RowKit.Below renaming refl -> ζ
namespace Ln
theorem c8(l:B)(b:128<=nat l 0):128<=(dec l).1/\∀j,j < (dec l).2->128<=nat l j:=by
 unfold dec Go.Lib.decodeN;rw[if_neg (by omega)];split
 ·split
  ·refine⟨by simp only;omega,λj a=>?_⟩
   simp only at a;obtain rfl|rfl:j=0\/j=1:=by omega
   ·exact b
   ·omega
  ·refine⟨by simp only;omega,λj a=>?_⟩
   simp only at a;obtain rfl:j=0:=by omega
   exact b
 ·split
  ·split
   ·refine⟨by simp only;omega,λj a=>?_⟩
    simp only at a;obtain rfl|rfl|rfl:j=0\/j=1\/j=2:=by omega
    ·exact b
    ·omega
    ·omega
   ·refine⟨by simp only;omega,λj a=>?_⟩
    simp only at a;obtain rfl:j=0:=by omega
    exact b
  ·split
   ·split
    ·refine⟨by simp only;omega,λj a=>?_⟩
     simp only at a;obtain rfl|rfl|rfl|rfl:j=0\/j=1\/j=2\/j=3:=by omega
     ·exact b
     ·omega
     ·omega
     ·omega
    ·refine⟨by simp only;omega,λj a=>?_⟩
     simp only at a;obtain rfl:j=0:=by omega
     exact b
   ·refine⟨by simp only;omega,λj a=>?_⟩
    simp only at a;obtain rfl:j=0:=by omega
    exact b
theorem qG:plainB []=true:=rfl
theorem oE(l:B)(k:Nat)(c:∀j,j < k->128<=nat l j):plainB l=plainB (l.drop k):=by
 have e:plainB (l.take k++l.drop k)=(plainB (l.take k)&&plainB (l.drop k)):=by unfold plainB;rw[List.all_append]
 rw[List.take_append_drop]at e;have f:plainB (l.take k)=true:=by
  unfold plainB;rw[List.all_eq_true];intro i d;obtain⟨j,a,rfl⟩:=List.mem_iff_getElem.1 d;simp only[List.length_take]at a;have m:=c j (by omega);have b:(l.take k)[j]'(by simp only[List.length_take];exact a)=l[j]'(by omega):=List.getElem_take;have g:nat l j=(l[j]'(by omega)).toNat:=by
   unfold nat
   rw[zY,zE (by omega)];rfl
  rw[b];simp only[zQ,decide_eq_true_eq];omega
 rw[e,f,Bool.true_and]
theorem j6(l:B)(d:l≠[])(a:(dec l).1 < 32\/(dec l).1=127):plainB l=false:=by
 cases l with
 |nil=>exact absurd rfl d
 |cons c t=>
  by_cases b:128<=c.toNat
  ·have:=(c8 (c::t) b).1
   omega
  ·rw[aM c t (by omega)]at a
   unfold plainB;rw[List.all_cons];simp only at a;rcases a with a|a
   ·simp only[show ¬32<=c.toNat by omega,decide_false,Bool.false_and]
   ·simp only[show ¬c.toNat≠127 by omega,decide_false,Bool.false_and,Bool.and_false]
theorem ia(l:B)(d:l≠[])(a:¬((dec l).1 < 32\/(dec l).1=127)):plainB l=plainB (l.drop (dec l).2):=by
 cases l with
 |nil=>exact absurd rfl d
 |cons c t=>
  by_cases b:128<=c.toNat
  ·exact oE _ _ (c8 (c::t) b).2
  ·rw[aM c t (by omega)]at a ⊢
   unfold plainB;rw[List.all_cons];simp only at a;simp only[show 32<=c.toNat by omega,show c.toNat≠127 by omega,decide_true,Bool.true_and,List.drop_succ_cons,List.drop_zero,ne_eq,not_false_iff]
def oneB(m a:B):Bool:=Go.Lib.hasPrefix a m&&(decide (Go.Lib.trimPrefix a m=[])||decide ((Go.Lib.trimPrefix a m).head? =W 32))
theorem qQ(a c d:UInt8)(b:B):oneB [a,c,d] b=([a,c,d].isPrefixOf b&&(decide (b.length=3)||decide (b[3]? =W 32))):=by
 unfold oneB Go.Lib.trimPrefix Go.Lib.hasPrefix;cases e:[a,c,d].isPrefixOf b with
 |false=>simp
 |true=>
  rw[if_pos rfl]
  match b,e with
  | [],h=>simp[List.isPrefixOf]at h
  | [_],h=>simp[List.isPrefixOf]at h
  | [_,_],h=>simp[List.isPrefixOf]at h
  |x::y::z::u,h=>cases u<;>simp
theorem tP(a:B):markB a=(oneB [45,45,45] a||oneB [46,46,46] a):=by
 rw[qQ,qQ,markB,Bool.and_or_distrib_right]
theorem bz:∀(l d:B),d∈rows l->d.length<=l.length
 | [],d,a=>by simp[rows]at a
 |b::t,d,a=>by
  by_cases f:b=10
  ·subst f
   rw[eh]at a;rcases List.mem_cons.1 a with rfl|a
   ·simp
   ·have:=bz t d a
    simp only[zO];omega
  ·cases e:rows t with
   |nil=>
    cases t with
    |nil=>
     simp only[rows,if_neg f,List.mem_singleton]at a;subst a;simp
    |cons c u=>exact absurd e (me _ (by simp))
   |cons q rs=>
    rw[jV b f t q rs e]at a;rcases List.mem_cons.1 a with rfl|a
    ·have:=bz t q (by rw[e];simp)
     simp only[zO];omega
    ·have:=bz t d (by rw[e];simp[a])
     simp only[zO];omega
theorem dD:∀(l:B),(rows l).length<=l.length
 | []=>η _
 |b::t=>by
  by_cases a:b=10
  ·subst a
   rw[eh];simp only[zO];have:=dD t;omega
  ·cases d:rows t with
   |nil=>
    cases t with
    |nil=>simp[rows,a]
    |cons c u=>exact absurd d (me _ (by simp))
   |cons r rs=>
    rw[jV b a t r rs d];have:=dD t;rw[d]at this;simp only[zO]at this ⊢;omega
end Ln
namespace Tp
theorem uH:∀x:Fin 16,unhexD (hexD x.val)=W x.val:=by decide
theorem ofNat_toNat(a:UInt8)(n:Nat)(b:a.toNat=n):a=UInt8.ofNat n:=by subst b;exact(UInt8.ofNat_toNat).symm
theorem tY(a:UInt8):(esc a=[a]/\a.toNat≠34/\a.toNat≠92/\32<=a.toNat/\a.toNat≠127)\/∃t,esc a=92::t/\1<=t.length/\∀b,escd (t++b)=W (a,t.length):=by
 have g:=UInt8.toNat_lt a;unfold esc;split
 ·rename_i h;obtain rfl:=ofNat_toNat a _ h;exact .inr ⟨_,rfl,by decide,λb=>rfl⟩
 split
 ·rename_i h;obtain rfl:=ofNat_toNat a _ h;exact .inr ⟨_,rfl,by decide,λb=>rfl⟩
 split
 ·rename_i h;obtain rfl:=ofNat_toNat a _ h;exact .inr ⟨_,rfl,by decide,λb=>rfl⟩
 split
 ·rename_i h;exact .inr ⟨_,rfl,by simp,λb=>by simp only[List.cons_append,List.nil_append,escd,if_pos h];rfl⟩
 split
 ·rename_i h
  refine .inr ⟨_,rfl,by simp,λb=>?_⟩;have d:=uH ⟨a.toNat / 16,by omega⟩;have c:=uH ⟨a.toNat % 16,by omega⟩;have f:a.toNat / 16 < 8:=by omega
  have e:UInt8.ofNat (16 * (a.toNat / 16)+a.toNat % 16)=a:=by rw[Nat.div_add_mod];exact UInt8.ofNat_toNat
  simp only at d c;simp only[List.cons_append,List.nil_append,escd,d,c,f,if_true,e];rfl
 ·rename_i d c f e h5
  exact .inl ⟨rfl,by omega,by omega,by omega,by omega⟩
theorem jH:∀(s a:B) (n:Nat),s.length < n->unq 34 n (s.flatMap esc++34::a)=W (s,a)
 | [],a,0,h=>by simp at h
 | [],a,n+1,_=>by simp[unq]
 |b::s,a,0,h=>by simp at h
 |b::s,a,n+1,h=>by
  have c:=jH s a n (by simpa using h);rw[List.flatMap_cons,List.append_assoc];generalize hR:s.flatMap esc++34::a=p at c;rcases tY b with ⟨d,k,j,o,l⟩|⟨t,d,m,g⟩
  ·rw[d,List.cons_append,List.nil_append,unq]
   have f:¬b=34:=λe=>k (by rw[e];rfl);simp only[f,j,false_and,if_false,show ¬(b.toNat < 32\/b.toNat=127)by omega,c,Option.map_some]
  ·rw[d,List.cons_append,unq]
   have f:¬(92:UInt8)=34:=by decide
   have i:(92:UInt8).toNat=92:=by decide
   have c3:¬(34:UInt8).toNat=39:=by decide
   rw[if_neg f,if_pos i,if_neg c3,g];simp only[List.drop_left,c,Option.map_some]
theorem aD(s:B):s.length+2<=(quote s).length/\(quote s).length<=4 * s.length+2:=by
 have:∀s:B,s.length<=(s.flatMap esc).length/\(s.flatMap esc).length<=4 * s.length:=by
  intro s;induction s with
  |nil=>simp
  |cons b s ih=>
   have a:1<=(esc b).length/\(esc b).length<=4:=by
    unfold esc;repeat' split
    all_goals simp
   simp only[List.flatMap_cons,zP,zO];omega
 have c:=this s;simp only[quote,zO,zP,List.length_nil];omega
theorem qO(b:Nat)(d:Bool)(s a:B)(c:closed b a=true):one b d (quote s++a)=W (2,s,b,(quote s).length):=by
 have g:=aD s;have e:quote s++a=34::(s.flatMap esc++34::a):=by simp[quote]
 rw[e,one];have f:(s.flatMap esc).length+2=(quote s).length:=by simp[quote]
 simp only[show (34:UInt8).toNat=34 from rfl,true_or,if_true];rw[jH s a _ (by simp only[zP,zO];omega)];simp only[c,Bool.true_or,if_true,zP,zO,Option.some.injEq,Prod.mk.injEq,true_and];omega
end Tp
namespace Tp
theorem cH(n e:Nat)(c:Bool)(a:Nat)(b:UInt8)(t:B):toks (n+1) e c a (b::t)=
 if b.toNat=32 then toks n e true (a+1) t else if b.toNat=35/\c=true then W []
  else match one e c (b::t) with
   |none=>O
   |some (k,s,d,m)=>(toks n d (((b::t).getD (m - 1) 0).toNat==32) (a+m) ((b::t).drop m)).map (⟨k,s,a⟩::·):=by rw[toks];rfl
theorem ff(n b:Nat)(c:Bool)(a:Nat)(t:B):toks (n+1) b c a (32::t)=toks n b true (a+1) t:=rfl
theorem gN(n c:Nat)(g:Bool)(a:Nat)(s b:B)(m:closed c b=true):
 toks (n+1) c g a (quote s++b)=(toks n c false (a+(quote s).length) b).map (⟨2,s,a⟩::·):=by
 have j:=qO c g s b m;have p:=aD s;obtain⟨d,t,e⟩:∃d t,quote s++b=d::t:=⟨34,s.flatMap esc++[34]++b,rfl⟩;have k:d=34:=by have:=congrArg List.head? e;simp[quote]at this;exact this.symm
 have i:(quote s++b).getD ((quote s).length - 1) 0=34:=by
  have o:quote s=(34::s.flatMap esc)++[34]:=by simp[quote]
  rw[o,List.append_assoc,zY,zV (by simp)];simp
 have f:(quote s++b).drop (quote s).length=b:=List.drop_left;rw[e]at j i f ⊢;rw[cH,j,if_neg (by rw[k];decide),if_neg (by rw[k];exact λl=>absurd l.1 (by decide))];simp only[i,f];rfl
def rowB:List B->B
 | []=>[93]
 |s::r=>quote s++32::44::32::rowB r
def yU:Nat->List B->List Tk
 |a,[]=>[⟨9,[],a⟩]
 |a,s::r=>⟨2,s,a⟩::⟨7,[],a+(quote s).length+1⟩::yU (a+(quote s).length+3) r
theorem jL:∀(b:List B) (n a:Nat) (c:Bool),4 * b.length+2<=n->toks n 1 c a (rowB b)=W (yU a b)
 | [],n,a,c,h=>by
  obtain⟨m,rfl⟩:∃m,n=m+2:=⟨n - 2,by simp at h;omega⟩;rfl
 |s::r,n,a,c,h=>by
  obtain⟨m,rfl⟩:∃m,n=m+4:=⟨n - 4,by simp at h;omega⟩;have d:=jL r m (a+(quote s).length+3) true (by simp at h;omega);rw[rowB,gN _ _ _ _ _ _ rfl];rw[ff,cH,if_neg (by decide),if_neg (by decide)];rw[show one 1 true (44::32::rowB r)=W (7,[],1,1)from rfl];simp only[List.drop_succ_cons,List.drop_zero];rw[ff,d];rfl
def rowA(s:B):B:=45::32::32::32::(quote s++[32,32,32,35,32,110,111,116,101])
theorem pS(s:B):toks 10 0 true 0 (rowA s)=W [⟨5,[],0⟩,⟨2,s,4⟩]:=by
 unfold rowA;rw[cH,if_neg (by decide),if_neg (by decide)];rw[show one 0 true (45::32::32::32::(quote s++[32,32,32,35,32,110,111,116,101]))=W (5,[],0,1)from rfl];simp only[List.drop_succ_cons,List.drop_zero];rw[ff,ff,ff,gN _ _ _ _ _ _ rfl];rfl
theorem pT(a:List B):toks (4 * a.length+3) 0 true 0 (91::rowB a)=W (⟨8,[],0⟩::yU 1 a):=by
 rw[cH,if_neg (by decide),if_neg (by decide),show one 0 true (91::rowB a)=W (8,[],1,1)from rfl];simp only[List.drop_succ_cons,List.drop_zero];rw[jL a _ _ _ (by omega)];rfl
def yV(s:B):Tree:=⟨0,[],⟨3,0,s⟩,[],[]⟩
def yP(a:List B):Tree:=⟨1,[],Sc.null,[],a.map yV⟩
theorem iw:∀(b:List B) (n a:Nat),2 * b.length+2<=n->flist n 2 (yU a b)=W (b.map yV,[])
 | [],n,a,h=>by
  obtain⟨m,rfl⟩:∃m,n=m+2:=⟨n - 2,by simp at h;omega⟩;rfl
 |s::r,n,a,h=>by
  obtain⟨m,rfl⟩:∃m,n=m+2:=⟨n - 2,by simp at h;omega⟩;have c:=iw r (m+1) (a+(quote s).length+3) (by simp at h;omega);rw[yU,flist];simp only[show ¬(2:Int)=9 by decide,if_false];rw[show fval (m+1) 2 (⟨2,s,a⟩::⟨7,[],a+(quote s).length+1⟩::yU (a+(quote s).length+3) r)=W (yV s,⟨7,[],a+(quote s).length+1⟩::yU (a+(quote s).length+3) r)from rfl];simp only[if_true,c];rfl
theorem dg:∀(b:List B) (a:Nat),(yU a b).length=2 * b.length+1
 | [],_=>rfl
 |s::r,a=>by simp only[yU,zO,dg r];omega
theorem dm(a:List B):depth (yP a)<=2:=by
 have:∀a:List B,depthL (a.map yV)<=1:=by
  intro a;induction a with
  |nil=>simp[depthL]
  |cons s r ih=>simp only[List.map_cons,depthL,yV,depth];omega
 have:=this a;simp only[yP,depth];omega
theorem sH(a:List B):bval (⟨8,[],0⟩::yU 1 a) 1=W (yP a):=by
 have c:=dm a;have b:fval (2 * a.length+3) 1 (⟨8,[],0⟩::yU 1 a)=W (yP a,[]):=by
  rw[fval.eq_def];simp only[show ¬24 < 1 by omega,show ¬((8:Int)=1\/(8:Int)=2)by decide,show ¬(8:Int)=3 by decide,show ¬(8:Int)=4 by decide,if_false,if_true];rw[iw a _ 1 (by omega)];rfl
 unfold bval;rw[zO,dg,b];simp only;rw[if_pos (by omega)]
theorem pB(a:List B)(d:Int):bread [⟨d,0,⟨8,[],0⟩::yU 1 a⟩]=W (yP a):=by
 have b:isKey (⟨8,[],0⟩::yU 1 a)=false:=by cases a<;>rfl
 have c:isPl (⟨8,[],0⟩::yU 1 a)=true:=by cases a<;>rfl
 unfold bread;simp only[show isDash (⟨8,[],0⟩::yU 1 a)=false from rfl,b,c,List.isEmpty_nil,Bool.and_self,if_true,sH];rfl
theorem lg:∀(a:List (Int × B)),bseq 2 (a.map λx=>⟨x.1,2,[⟨5,[],0⟩,⟨2,x.2,4⟩]⟩)=W (a.map λx=>yV x.2)
 | []=>rfl
 |x::r=>by
  rw[List.map_cons,bseq,if_pos ⟨rfl,rfl,rfl⟩];rw[show bval (List.drop 1 [⟨5,[],0⟩,⟨2,x.2,4⟩]) 2=W (yV x.2)from rfl,lg r];rfl
theorem pA(a:List (Int × B))(d:a≠[]):bread (a.map λx=>⟨x.1,2,[⟨5,[],0⟩,⟨2,x.2,4⟩]⟩)=W (yP (a.map (·.2))):=by
 obtain⟨x,c,rfl⟩:=List.exists_cons_of_ne_nil d;have b:=lg (x::c);rw[List.map_cons]at b ⊢;unfold bread;simp only[show isDash [⟨5,[],0⟩,⟨2,x.2,4⟩]=true from rfl,if_true,b];simp[yP]
end Tp
namespace Tp
def yw(s:B):Nd:=⟨0,⟨3,0,s⟩,[],[]⟩
def yr(a:List B):List Nd:=⟨1,Sc.null,[],(List.range a.length).map (·+1)⟩::a.map yw
theorem m0(j:Nat)(x:Nd)(l:List Nd):addKid 0 j (x::l)={ x with kids:=x.kids++[j] }::l:=rfl
theorem fT:∀(b:List B) (a:List Nat) (g:List Nd),g.length+b.length+1<=200->
 layL 2 0 (b.map yV) (⟨1,Sc.null,[],a⟩::g,[])=W (⟨1,Sc.null,[],a++(List.range b.length).map (·+(g.length+1))⟩::(g++b.map yw),[])
 | [],a,g,_=>by simp[layL]
 |s::r,a,g,h=>by
  have c:=fT r (a++[g.length+1]) (g++[yw s]) (by simp at h ⊢;omega);rw[List.map_cons,layL,yV,lay];rw[if_neg (by simp[shaped,AK,twice]),if_neg (by decide),if_neg (by simp at h ⊢;omega)];simp only[layL,Option.map_some,List.isEmpty_nil,if_true,List.cons_append,m0,zO];rw[show (⟨0,⟨3,0,s⟩,[],[]⟩:Nd)=yw s from rfl,c];simp only[List.append_assoc,List.singleton_append,zP,zO,List.length_nil,List.map_cons,Option.some.injEq,Prod.mk.injEq,List.cons.injEq,Nd.mk.injEq,true_and,and_true,List.append_cancel_left_eq];rw[List.range_succ_eq_map,List.map_cons,List.map_map];simp only[Nat.zero_add,List.cons.injEq,true_and];refine List.map_congr_left λi _=>?_;simp only[Function.comp_apply];omega
theorem fX(a:List B)(b:a.length+1<=200):graph (yP a)=W (yr a):=by
 unfold graph yP;rw[lay,if_neg (by simp[shaped,twice]),if_neg (by decide),if_neg (by simp)];simp only[List.isEmpty_nil,if_true,List.nil_append,List.length_nil];rw[fT a [] [] (by simpa using by omega)];rfl
def ya(b:List Nat)(a:List B):List Nd:=⟨1,Sc.null,[],b⟩::a.map yw
theorem qU(n:Nat)(s:B):okNd n (yw s)=true:=by simp[okNd,yw,AK]
theorem fL(b:List Nat)(a:List B)(c:∀k∈b,k < a.length+1)(d:a.length+1<=200):okGr 0 (ya b a)=true:=by
 simp only[okGr,ya,zO,List.length_map,List.all_cons,List.all_map,zQ,decide_eq_true_eq];refine⟨⟨by omega,by omega⟩,?_,?_⟩
 ·simp only[okNd,show ¬(1:Int)=0 by decide,if_false,if_true,decide_true,List.isEmpty_nil,Bool.and_self,Bool.true_and,List.all_eq_true,decide_eq_true_eq]
  exact c
 ·simp[List.all_eq_true,qU]
theorem mC(s:B):kidsOf (yw s)=[]:=rfl
section
variable {α:Type} [DecidableEq α]
def fst'(a:List α)(l:List α):List α:=l.foldl (λa x=>if x∈a then a else a++[x]) a
theorem bB(a:List α)(b:α)(l:List α):fst' a (b::l)=fst' (if b∈a then a else a++[b]) l:=rfl
theorem rG:∀(l a:List α) (x:α),x∈fst' a l↔x∈a\/x∈l
 | [],a,x=>by simp[fst']
 |y::l,a,x=>by
  rw[fst',List.foldl_cons,<-fst',rG l];by_cases c:y∈a
  ·rw[if_pos c,List.mem_cons]
   constructor
   ·rintro (b|b)
    ·exact .inl b
    ·exact .inr (.inr b)
   ·rintro (b|rfl|b)
    ·exact .inl b
    ·exact .inl c
    ·exact .inr b
  ·rw[if_neg c,List.mem_append,List.mem_singleton,List.mem_cons]
   constructor
   ·rintro ((b|b)|b)
    ·exact .inl b
    ·exact .inr (.inl b)
    ·exact .inr (.inr b)
   ·rintro (b|b|b)
    ·exact .inl (.inl b)
    ·exact .inl (.inr b)
    ·exact .inr b
theorem dR:∀(l a:List α),a.Nodup->(fst' a l).Nodup
 | [],a,h=>h
 |y::l,a,h=>by
  rw[fst',List.foldl_cons,<-fst'];by_cases b:y∈a
  ·rw[if_pos b];exact dR l a h
  ·rw[if_neg b]
   refine dR l _ (List.nodup_append.2 ⟨h,by simp,?_⟩);intro x d z c e;rw[List.mem_singleton]at c;exact b (by rw[<-c,<-e];exact d)
theorem dS:∀(l a:List α),∃t,fst' a l=a++t
 | [],a=>⟨[],by simp[fst']⟩
 |y::l,a=>by
  rw[fst',List.foldl_cons,<-fst'];by_cases b:y∈a
  ·rw[if_pos b];exact dS l a
  ·rw[if_neg b]
   obtain⟨t,c⟩:=dS l (a++[y]);exact⟨y::t,by rw[c,List.append_assoc];rfl⟩
end
theorem jj{α g:Type}[DecidableEq α][DecidableEq g](b:α->g)(f:∀x c,b x=b c->x=c):∀(l a:List α),fst' (a.map b) (l.map b)=(fst' a l).map b
 | [],a=>rfl
 |c::l,a=>by
  rw[List.map_cons,bB,bB];by_cases d:c∈a
  ·rw[if_pos d,if_pos (List.mem_map.2 ⟨c,d,rfl⟩)];exact jj b f l a
  ·rw[if_neg d,if_neg (by rintro i;obtain⟨z,j,e⟩:=List.mem_map.1 i;exact d (f _ _ e ▸ j))]
   have:=jj b f l (a++[c])
   simpa using this
theorem mL{α:Type}[DecidableEq α]:∀(l d:List α) (k:Nat),(∃t,d=fst' (d.take k) l++t)->d.Nodup->k<=d.length->fst' (List.range k) (l.map λx=>idx d x)=List.range (fst' (d.take k) l).length
 | [],d,k,_,_,hk=>by simp[fst',Nat.min_eq_left hk]
 |y::l,d,k,⟨t,ht⟩,hd,hk=>by
  rw[List.map_cons,bB,bB];rw[bB]at ht;by_cases b:y∈d.take k
  ·rw[if_pos b]at ht ⊢
   have a:idx d y < k:=by
    obtain⟨i,a,e⟩:=List.getElem_of_mem b;rw[List.length_take]at a;rw[List.getElem_take]at e;rw[<-e,idx,hd.idxOf_getElem];omega
   rw[if_pos (List.mem_range.2 a)];exact mL l d k ⟨t,ht⟩ hd hk
  ·rw[if_neg b]at ht ⊢
   obtain⟨n,j⟩:=dS l (d.take k++[y]);have m:(d.take k).length=k:=List.length_take_of_le hk;have c:d[k]? =W y:=by
    rw[ht,j];simp[List.append_assoc,m]
   obtain⟨o,g⟩:=zM.1 c;have a:idx d y=k:=by rw[<-g,idx,hd.idxOf_getElem]
   have f:d.take (k+1)=d.take k++[y]:=by rw[zG,c];rfl
   rw[a,if_neg (by simp),<-List.range_succ,<-f];rw[<-f]at ht;exact mL l d (k+1) ⟨t,ht⟩ hd (by omega)
theorem pm{α:Type}[DecidableEq α](l:List α):firsts (l.map λx=>idx (firsts l) x)=List.range (firsts l).length:=
 mL l (firsts l) 0 ⟨[],by simp[firsts,fst']⟩ (dR l [] List.nodup_nil) (z_ _)
theorem dV{α:Type}[DecidableEq α](l:List α):firsts l=fst' [] l:=rfl
theorem bH{α:Type}[DecidableEq α](l:List α)(x:α):x∈firsts l↔x∈l:=by rw[dV,rG];simp
theorem eD{α:Type}[DecidableEq α](l:List α):(firsts l).Nodup:=dR l [] List.nodup_nil
theorem kN{α:Type}[DecidableEq α](l:List α)(x:α)(a:x∈l):idx l x < l.length:=List.idxOf_lt_length_of_mem a
theorem rC{α:Type}[DecidableEq α](l:List α)(a:l.Nodup)(i:Nat)(b:i < l.length):idx l l[i]=i:=a.idxOf_getElem i b
theorem mK{α:Type}[DecidableEq α](l:List α)(x:α)(a:idx l x < l.length):l[idx l x]=x:=List.getElem_idxOf a
theorem bp{α:Type}[DecidableEq α](b:α)(l:List α)(x:α):idx (b::l) x=if b=x then 0 else idx l x+1:=by
 unfold idx;rw[List.idxOf_cons];by_cases a:b=x
 ·rw[if_pos a,beq_iff_eq.2 a];rfl
 ·rw[if_neg a,beq_eq_false_iff_ne.2 a];rfl
theorem rB{α f:Type}[DecidableEq α][DecidableEq f](b:α->f)(g:∀x d,b x=b d->x=d)(a:α):∀l:List α,idx (l.map b) (b a)=idx l a
 | []=>rfl
 |x::l=>by
  rw[List.map_cons,bp,bp,rB b g a l];by_cases c:x=a
  ·rw[if_pos c,if_pos (congrArg b c)]
  ·rw[if_neg c,if_neg (λe=>c (g _ _ e))]
end Tp
namespace Tp
theorem bq{α:Type}[DecidableEq α](x:α):∀(l a:List α),x ∉ l->fst' (x::a) l=x::fst' a l
 | [],a,_=>rfl
 |y::l,a,h=>by
  rw[bB,bB];have c:¬y=x:=λe=>h (by simp[e]);by_cases b:y∈a
  ·rw[if_pos b,if_pos (by simp[b])];exact bq x l a (λe=>h (by simp[e]))
  ·rw[if_neg b,if_neg (by simp[b,c]),List.cons_append];exact bq x l _ (λe=>h (by simp[e]))
def yz(s:B):Say:=(0,⟨3,0,s⟩,[],[])
theorem fS(x a:B)(b:yz x=yz a):x=a:=by simpa [yz]using b
def idxs(a:List B):List Nat:=a.map λs=>idx (firsts a) s+1
theorem gZ(a:List B)(c:List Nat):round (yr a) c=(0::idxs a,(firsts a).length+1):=by
 obtain⟨b,f⟩:∃b,say c ⟨1,Sc.null,[],(List.range a.length).map (·+1)⟩=b:=⟨_,rfl⟩;have j:(yr a).map (say c)=b::a.map yz:=by
  rw[yr,List.map_cons,f,List.map_map];congr 1
 have d:∀s,yz s≠b:=by intro s e;rw[<-f]at e;simp[yz,say]at e
 have g:firsts (b::a.map yz)=b::(firsts a).map yz:=by
  rw[show firsts (b::a.map yz)=fst' [b] (a.map yz)from rfl,bq b _ [] (by intro i;obtain⟨s,_,e⟩:=List.mem_map.1 i;exact d s e)];exact congrArg _ (jj yz fS a [])
 unfold round;simp only[j,g,List.map_cons,List.map_map,zO,List.length_map,Prod.mk.injEq,and_true,bp,if_true,List.cons.injEq,true_and,idxs];refine List.map_congr_left λs _=>?_;rw[Function.comp_apply,if_neg (λe=>d s e.symm),rB yz fS]
theorem eM(a:List B):classes (yr a)=W (0::idxs a):=by
 unfold classes;rw[gZ,refine,if_pos (by omega),gZ,refine,if_neg (by omega)]
theorem gj(a:List B):firsts (0::idxs a)=List.range ((firsts a).length+1):=by
 have b:idxs a=(a.map λs=>idx (firsts a) s).map (·+1):=by simp[idxs]
 rw[show firsts (0::idxs a)=fst' [0] (idxs a)from rfl,bq 0 _ [] (by simp[idxs]),b];have:=jj (λx:Nat=>x+1) (λx c d=>by omega) (a.map λs=>idx (firsts a) s) [];rw[List.map_nil]at this;rw[this,show fst' [] (a.map λs=>idx (firsts a) s)=List.range (firsts a).length from pm a,List.range_succ_eq_map]
theorem ep(a:List B)(s:B)(b:s∈a):idx (firsts a) s < (firsts a).length:=kN _ _ ((bH a s).2 b)
theorem dC(c:List Nat)(a:List B)(j:Nat)(b:j < a.length):(ya c a).getD (j+1) ⟨0,Sc.null,[],[]⟩=yw a[j]:=by
 simp[ya,zY,b]
theorem gJ(a:List B):((List.range a.length).map (·+1)).map (λi=>(0::idxs a).getD i 0)=idxs a:=by
 refine List.ext_getElem? λi=>?_;rw[List.map_map,List.getElem?_map,idxs,List.getElem?_map];by_cases b:i < a.length
 ·rw[List.getElem?_range b,Option.map_some,Function.comp_apply,zE b]
  simp[b]
 ·rw[List.getElem?_eq_none (by simp;omega),List.getElem?_eq_none (by omega)]
  rfl
theorem cS(a:List B):whole (yr a) (0::idxs a)=ya (idxs a) (firsts a):=by
 unfold whole;rw[gj,List.range_succ_eq_map,List.map_cons];simp only[bp,if_true];rw[show (yr a).getD 0 ⟨0,Sc.null,[],[]⟩=⟨1,Sc.null,[],(List.range a.length).map (·+1)⟩from rfl];unfold ya;congr 1
 ·rw[Nd.mk.injEq]
  exact⟨rfl,rfl,rfl,gJ a⟩
 ·rw[List.map_map]
  refine List.ext_getElem? λj=>?_;rw[List.getElem?_map,List.getElem?_map];by_cases b:j < (firsts a).length
  ·rw[List.getElem?_range b,zE b,Option.map_some,Option.map_some,Function.comp_apply]
   have g:(firsts a)[j]∈a:=(bH a _).1 (List.getElem_mem b);have k:j+1∈(0::idxs a):=by
    rw[List.mem_cons,idxs,List.mem_map];exact .inr ⟨_,g,by rw[rC _ (eD a)]⟩
   have d:=kN _ _ k;have e:=mK _ _ d;obtain⟨p,c⟩:∃p,idx (0::idxs a) (j+1)=p+1:=by
    rw[bp,if_neg (by omega)];exact⟨_,rfl⟩
   simp only[Nat.succ_eq_add_one,if_neg (show ¬0=j+1 by omega)];rw[show idx (idxs a) (j+1)+1=p+1 by rw[<-c,bp,if_neg (by omega)]];rw[c]at d;simp only[c]at e ⊢;rw[zI]at e;simp only[idxs,List.getElem_map]at e;have f:p < a.length:=by simpa [idxs]using d
   have i:=ep a a[p] (List.getElem_mem f);have l:a[p]=(firsts a)[j]:=by
    have:=mK _ _ i;rw[<-this];congr 1
    omega
   have m:(yr a).getD (p+1) ⟨0,Sc.null,[],[]⟩=yw (firsts a)[j]:=by
    simp[yr,zY,f,l]
   rw[m];rfl
  ·rw[List.getElem?_eq_none (by simpa using b),List.getElem?_eq_none (by omega)]
   rfl
theorem dl(a:List B):∀k∈idxs a,k < (firsts a).length+1:=by
 intro k b;obtain⟨s,c,rfl⟩:=List.mem_map.1 b;have:=ep a s c;omega
theorem fc(d:List Nat)(c:List B):∀(l b:List Nat) (a:Nat),(∀k∈l,1<=k/\k < c.length+1)->l.length < a->walk (ya d c) a l b=W (fst' b l)
 | [],b,a+1,_,_=>rfl
 |i::l,b,a+1,h,hf=>by
  have m:=h i (by simp);have f:∀k∈l,1<=k/\k < c.length+1:=λk g=>h k (by simp[g]);rw[walk,bB];by_cases e:i∈b
  ·simp only[e,if_true]
   exact fc d c l b a f (by simpa using hf)
  ·simp only[e,if_false]
   obtain⟨j,rfl⟩:∃j,i=j+1:=⟨i - 1,by omega⟩;rw[dC d c j (by omega),mC,List.nil_append];exact fc d c l _ a f (by simpa using hf)
theorem rz(n j:Nat)(a:j < n):idx (List.range n) j=j:=by
 have:=rC _ (List.nodup_range (n:=n)) j (by simpa using a)
 rwa [List.getElem_range]at this
theorem cp(c:List B):(firsts c).length<=c.length:=by
 have:∀(l a:List B),(fst' a l).length<=a.length+l.length:=by
  intro l;induction l with
  |nil=>intro a;simp[fst']
  |cons y l ih=>
   intro a;rw[bB];have b:=ih (if y∈a then a else a++[y]);rw[zO];split at b
   ·rw[if_pos ‹_›];omega
   ·rw[if_neg ‹_›];rw[zP]at b;simp only[zO,List.length_nil]at b;omega
 have b:=this c [];rw[<-dV]at b
 simpa using b
theorem dA(a:List B)(e:a.length<=100):tidy 0 (ya (idxs a) (firsts a))=W (ya (idxs a) (firsts a)):=by
 have d:=cp a;unfold tidy;rw[if_pos (fL _ _ (dl a) (by omega)),walk];simp only[List.not_mem_nil,if_false,List.nil_append,List.append_nil];rw[show kidsOf ((ya (idxs a) (firsts a)).getD 0 ⟨0,Sc.null,[],[]⟩)=idxs a from rfl];rw[fc _ _ _ _ _ (λk b=>⟨by obtain⟨s,_,rfl⟩:=List.mem_map.1 b;omega,dl a k b⟩) (by simp[idxs];omega)];rw[show fst' [0] (idxs a)=firsts (0::idxs a)from rfl,gj,Option.map_some,List.range_succ_eq_map,List.map_cons,List.map_map];congr 1
 rw[show (ya (idxs a) (firsts a)).getD 0 ⟨0,Sc.null,[],[]⟩=⟨1,Sc.null,[],idxs a⟩from rfl,<-List.range_succ_eq_map];refine List.cons_eq_cons.2 ⟨?_,?_⟩
 ·rw[Nd.mk.injEq]
  refine⟨rfl,rfl,rfl,?_⟩;rw[show kidsOf ⟨1,Sc.null,[],idxs a⟩=idxs a from rfl];refine(List.map_congr_left λk b=>rz _ k (dl a k b)).trans (List.map_id' _)
 ·refine List.ext_getElem? λj=>?_
  rw[List.getElem?_map,List.getElem?_map];by_cases c:j < (firsts a).length
  ·rw[List.getElem?_range c,zE c,Option.map_some,Option.map_some,Function.comp_apply,Nat.succ_eq_add_one,dC _ _ j c]
   rfl
  ·rw[List.getElem?_eq_none (by simpa using c),List.getElem?_eq_none (by omega)]
   rfl
theorem fE(a:List B)(c:a.length<=100):quot (yr a)=W (ya (idxs a) (firsts a)):=by
 have d:okGr 0 (yr a)=true:=fL _ a (λk b=>by obtain⟨i,e,rfl⟩:=List.mem_map.1 b;rw[List.mem_range]at e;omega) (by omega);unfold quot;rw[if_pos d,eM];simp only[List.getD_cons_zero,cS];exact dA a c
end Tp
namespace Tp
theorem gO(c:List Nat)(a:List B)(i:Nat):((ya c a).getD (i+1) ⟨0,Sc.null,[],[]⟩).kids=[]:=by
 by_cases b:i < a.length
 ·rw[dC _ _ _ b];rfl
 ·simp[ya,zY,List.getElem?_eq_none (show a.length<=i by omega)]
theorem dW(d:List Nat)(e:List B):∀(l n:List Nat) (a:Nat),(∀k∈l,1<=k)->l.length+3<=a->(∀i,n.getD i 0<=2)->n.getD 0 0<=1->∃c,deepestL (ya d e) a 2 l n=W c/\(∀i,c.getD i 0<=2)/\c.getD 0 0<=1
 | [],n,a+1,_,_,h1,h2=>⟨n,rfl,h1,h2⟩
 |k::l,n,a+1,h,hf,h1,h2=>by
  have f:=h k (by simp);obtain⟨j,rfl⟩:∃j,k=j+1:=⟨k - 1,by omega⟩;have o:∀k∈l,1<=k:=λk f=>h k (by simp[f]);rw[zO]at hf;rw[deepestL];have m:deepest (ya d e) a (j+1) 2 n=W (if 0 < n.getD (j+1) 0 then n else n.set (j+1) 2):=by
   obtain⟨a,rfl⟩:∃g,a=g+2:=⟨a - 2,by omega⟩;rw[deepest];by_cases b:0 < n.getD (j+1) 0
   ·rw[if_pos b,if_pos b]
   ·rw[if_neg b,if_neg b,gO];rfl
  rw[m];simp only;refine dW d e l _ a o (by omega) ?_ ?_
  ·intro i
   split
   ·exact h1 i
   ·rw[zY,List.getElem?_set]
    split
    ·split<;>simp
    ·rw[<-zY];exact h1 i
  ·split
   ·exact h2
   ·rw[zY,List.getElem?_set,if_neg (by omega),<-zY];exact h2
theorem pK(a:List Nat)(b:List B)(d:∀k∈a,1<=k):uses (ya a b) 0=1:=by
 have:((ya a b).flatMap (·.kids))=a:=by
  simp only[ya,List.flatMap_cons,List.flatMap_map,yw];simp
 unfold uses;rw[this,List.count_eq_zero.2 (λc=>by have:=d 0 c;omega),if_pos rfl]
theorem li(a:List Nat)(b:List B)(c:∀k∈a,1<=k):∀i,isAnch (ya a b) i=false
 |0=>by
  unfold isAnch;rw[pK a b c];simp
 |i+1=>by
  unfold isAnch;simp only[gO,List.isEmpty_nil,Bool.not_true,Bool.and_false,Bool.false_and]
theorem jw(a:List Nat)(b:List B)(c:∀k∈a,1<=k)(i:Nat):anchName (ya a b) i=[]:=by
 unfold anchName anchor;rw[li a b c];rfl
theorem dj(f:List Nat)(c:List B):∀(l b:List Nat) (a:Nat),(∀k∈l,1<=k/\k < c.length+1)->l.length < a->
 itemsL (ya f c) a 0 ((l.map λ_=>[45]).zip l) b=W (l.map λk=>45::32::quote (c.getD (k - 1) []),b)
 | [],b,a+1,_,_=>rfl
 |k::l,b,a+1,h,hf=>by
  have d:=h k (by simp);obtain⟨j,rfl⟩:∃j,k=j+1:=⟨k - 1,by omega⟩;have e:j < c.length:=by omega
  rw[List.map_cons,List.zip_cons_cons,itemsL,dC _ _ j e];simp only[yw,List.isEmpty_nil,if_true];rw[dj f c l b a (λk d=>h k (by simp[d])) (by simpa using hf)];simp[nodeWord,scText,e]
theorem ie(a:List Nat)(b:List B)(c:∀k∈a,1<=k/\k < b.length+1)(g:a≠[])(i:a.length<=100):
 lines (ya a b)=W (a.map λk=>45::32::quote (b.getD (k - 1) [])):=by
 have d:(ya a b).getD 0 ⟨0,Sc.null,[],[]⟩=⟨1,Sc.null,[],a⟩:=rfl;have f:a.isEmpty=false:=by cases a with|nil=>exact absurd rfl g|cons _ _=>rfl
 unfold lines;simp only[d,f,Bool.false_eq_true,if_false,jw a b (λk e=>(c k e).1),List.isEmpty_nil,if_true];rw[items];simp only[d];rw[show headsOf ⟨1,Sc.null,[],a⟩=a.map λ_=>[45]from rfl,show kidsOf ⟨1,Sc.null,[],a⟩=a from rfl,dj a b a [0] 999 c (by omega)];rfl
theorem uA:∀(l:List Nat) (a:Nat),(∀x∈l,x<=a)->l.sum<=l.length * a
 | [],a,_=>by simp
 |x::l,a,h=>by
  have e:=h x (by simp);have d:=uA l a λb c=>h b (by simp[c]);rw[List.sum_cons,zO,Nat.add_mul];omega
theorem ml(b:List Nat)(c:List B)(g:b.length<=9)(f:c.length<=9):places (ya b c)<=200:=by
 have d:((ya b c).flatMap (·.kids))=b:=by
  simp only[ya,List.flatMap_cons,List.flatMap_map,yw];simp
 have j:(ya b c).length<=10:=by simp[ya];omega
 have:=uA ((List.range (ya b c).length).map λi=>if isAnch (ya b c) i then 1 else uses (ya b c) i) 10 (by
  intro x e;obtain⟨i,_,rfl⟩:=List.mem_map.1 e;split
  ·omega
  ·unfold uses
   rw[d];have:=List.count_le_length (a:=i) (l:=b);split<;>omega)
 rw[List.length_map,List.length_range]at this;unfold places;omega
def wantB(a:List B):B:=a.flatMap λs=>45::32::(quote s++[10])
theorem pz(a:List B)(y:a≠[])(E:a.length<=9)(v:∀s∈a,s.length<=20):canon (yr a)=W (wantB a):=by
 have D:=cp a;have c:∀k∈idxs a,1<=k/\k < (firsts a).length+1:=λk c=>⟨by obtain⟨s,_,rfl⟩:=List.mem_map.1 c;omega,dl a k c⟩;have f:(idxs a).length=a.length:=by simp[idxs]
 have l:idxs a≠[]:=by intro e;rw[e]at f;cases a with|nil=>exact y rfl|cons _ _=>simp at f
 unfold canon;rw[fE a (by omega),Option.bind_some];obtain⟨d,j,u,A⟩:=dW (idxs a) (firsts a) (idxs a) ((List.replicate (ya (idxs a) (firsts a)).length 0).set 0 1) 999 (λk b=>(c k b).1) (by omega)
  (by
   intro i;rw[zY,List.getElem?_set];split
   ·split<;>simp
   ·rw[List.getElem?_replicate];split<;>simp)
  (by simp[ya])
 have q:deepest (ya (idxs a) (firsts a)) 1000 0 1 (List.replicate (ya (idxs a) (firsts a)).length 0)=W d:=by
  rw[deepest,if_neg (by simp[ya])];exact j
 have z:((List.range (ya (idxs a) (firsts a)).length).all λi=>decide (d.getD i 0+(if ((ya (idxs a) (firsts a)).getD i ⟨0,Sc.null,[],[]⟩).kids.isEmpty then 0 else 1)<=24))=true:=by
  rw[List.all_eq_true];intro i _;have:=u i;simp only[decide_eq_true_eq];split<;>omega
 have o:=ie (idxs a) (firsts a) c l (by omega);have t:((idxs a).map λk=>45::32::quote ((firsts a).getD (k - 1) [])).flatMap (·++[10])=wantB a:=by
  rw[List.flatMap_map,idxs,List.flatMap_map,wantB];rw[List.flatMap_def,List.flatMap_def];congr 1
  refine List.map_congr_left λs b=>?_;have g:=ep a s b;have p:=mK _ _ g;simp only[Nat.add_sub_cancel,zY,zE g,p,Option.getD_some,List.cons_append]
 have m:(wantB a).length<=8000:=by
  have:∀a:List B,(∀s∈a,s.length<=20)->(wantB a).length<=a.length * 85:=by
   intro a;induction a with
   |nil=>intro _;simp[wantB]
   |cons s r ih=>
    intro b;have C:=b s (by simp);have n:=ih λx w=>b x (by simp[w]);have F:=aD s;simp only[wantB,List.flatMap_cons,zP,zO,List.length_nil]at n ⊢;rw[Nat.add_mul];omega
  have:=this a v;omega
 unfold printed;rw[if_pos (dA a (by omega)),q];simp only[z,if_true,o,t];rw[if_pos ⟨ml _ _ (by omega) (by omega),m⟩]
end Tp
namespace Tp
open Ln (right plainB)
theorem eS(s:B)(c:s.length<=8000)(b:right s=true)(d:∀a∈Ln.rows s,Ln.trouble a=0):Ln.split s=(Ln.lns 1 (Ln.rows s),0,0):=Ln.nt s ((Ln.d9 s).2 ⟨c,b,d⟩)
theorem jY(a e t:B)(c:∀b∈e,b.toNat < 128)(f:e≠[]):right (a++(e++t))=(right a&&right t):=by
 obtain⟨d,i,rfl⟩:=List.exists_cons_of_ne_nil f;rw[List.cons_append,Ln.fx a d _ (c d (by simp)),Ln.aS i t λb g=>c b (by simp[g])]
theorem rE(n:Nat)(a:n < 16):(hexD n).toNat < 128:=by
 have:∀x:Fin 16,(hexD x.val).toNat < 128:=by decide
 exact this ⟨n,a⟩
theorem rQ(b:UInt8)(c:b.toNat < 128):(∀d∈esc b,d.toNat < 128)/\esc b≠[]:=by
 unfold esc;repeat' split
 all_goals refine⟨?_,by simp⟩
 all_goals intro d a
 all_goals simp only[List.mem_cons,List.not_mem_nil,or_false]at a
 ·rcases a with rfl|rfl<;>decide
 ·rcases a with rfl|rfl<;>decide
 ·rcases a with rfl|rfl<;>decide
 ·rcases a with rfl|rfl
  ·decide
  ·exact c
 ·rcases a with rfl|rfl|rfl|rfl
  ·decide
  ·decide
  ·exact rE _ (by omega)
  ·exact rE _ (by omega)
 ·rw[a];exact c
theorem tZ(a:UInt8)(b:128<=a.toNat):esc a=[a]:=by
 unfold esc;rw[if_neg (by omega),if_neg (by omega),if_neg (by omega),if_neg (by omega),if_neg (by omega)]
theorem dU:∀a:B,(∀b∈a,128<=b.toNat)->a.flatMap esc=a
 | [],_=>rfl
 |b::a,h=>by rw[List.flatMap_cons,tZ b (h b (by simp)),dU a λx c=>h x (by simp[c])];rfl
theorem kx:∀s:B,(∀b∈s,128<=b.toNat)\/∃a d t,s=a++d::t/\(∀b∈a,128<=b.toNat)/\d.toNat < 128
 | []=>.inl (by simp)
 |b::s=>by
  by_cases g:b.toNat < 128
  ·exact .inr ⟨[],b,s,rfl,by simp,g⟩
  ·rcases kx s with e|⟨a,d,t,rfl,f,i⟩
   ·exact .inl λx c=>by
     rcases List.mem_cons.1 c with rfl|c
     ·omega
     ·exact e x c
   ·exact .inr ⟨b::a,d,t,rfl,λx c=>by
     rcases List.mem_cons.1 c with rfl|c
     ·omega
     ·exact f x c,i⟩
theorem jZ:∀(n:Nat) (s:B),s.length<=n->right (s.flatMap esc)=right s
 |0,s,h=>by cases s with|nil=>rfl|cons _ _=>simp at h
 |n+1,s,h=>by
  rcases kx s with e|⟨a,c,t,rfl,f,d⟩
  ·rw[dU s e]
  ·have b:=rQ c d
   rw[List.flatMap_append,dU a f,List.flatMap_cons,jY a _ _ b.1 b.2,jZ n t (by simp at h;omega),Ln.fx a c t d]
theorem dh(s t:B)(a:right s=true)(b:right t=true):right (quote s++t)=true:=by
 have e:quote s++t=[34]++(s.flatMap esc++([34]++t)):=by simp[quote]
 rw[e,Ln.aS [34] _ (by decide),jY _ [34] t (by decide) (by simp),jZ _ s (η _),a,b];rfl
theorem rP(c:UInt8):∀b∈esc c,32<=b.toNat/\b.toNat≠127:=by
 have f:=UInt8.toNat_lt c;have d:∀n,n < 16->32<=(hexD n).toNat/\(hexD n).toNat≠127:=by
  intro n e;have:∀x:Fin 16,32<=(hexD x.val).toNat/\(hexD x.val).toNat≠127:=by decide
  exact this ⟨n,e⟩
 unfold esc;repeat' split
 all_goals intro b a
 all_goals simp only[List.mem_cons,List.not_mem_nil,or_false]at a
 ·rcases a with rfl|rfl<;>decide
 ·rcases a with rfl|rfl<;>decide
 ·rcases a with rfl|rfl<;>decide
 ·rcases a with rfl|rfl
  ·decide
  ·omega
 ·rcases a with rfl|rfl|rfl|rfl
  ·decide
  ·decide
  ·exact d _ (by omega)
  ·exact d _ (by omega)
 ·subst a;omega
theorem fD(s:B):∀a∈quote s,32<=a.toNat/\a.toNat≠127:=by
 intro a b;simp only[quote,List.mem_cons,List.mem_append,List.mem_flatMap,List.not_mem_nil,or_false]at b;rcases b with rfl|⟨c,_,d⟩|rfl
 ·decide
 ·exact rP c a d
 ·decide
theorem dK(l:B)(b:∀a∈l,32<=a.toNat/\a.toNat≠127):plainB l=true:=by
 unfold plainB;rw[List.all_eq_true];intro a c;have:=b a c;simp[this.1,this.2]
def rowT(s:B):B:=32::32::rowA s
def textA(a:List B):B:=a.flatMap λs=>rowT s++[10,10]
theorem ej(s:B):∀a∈rowT s,32<=a.toNat/\a.toNat≠127:=by
 intro a b;simp only[rowT,rowA,List.mem_cons,List.mem_append,List.not_mem_nil,or_false]at b;rcases b with rfl|rfl|rfl|rfl|rfl|rfl|c|rfl|rfl|rfl|rfl|rfl|rfl|rfl|rfl|rfl;all_goals first|decide|exact fD s a c
theorem ef:∀b:List B,Ln.rows (textA b)=b.flatMap λs=>[rowT s,[]]
 | []=>rfl
 |s::r=>by
  have a:=ef r;unfold textA at a ⊢;rw[List.flatMap_cons,List.append_assoc];rw[show rowT s++([10,10]++r.flatMap λs=>rowT s++[10,10])=rowT s++10::(10::r.flatMap λs=>rowT s++[10,10])from rfl];rw[Ln.ny _ _ (λc d e=>by have:=(ej s c d).1;rw[e]at this;exact absurd this (by decide)),Ln.eh,a];rfl
theorem qt(s:B):∃a,rowA s=a++[101]:=⟨45::32::32::32::(quote s++[32,32,32,35,32,110,111,116]),by simp[rowA]⟩
theorem rj(n:Int)(s:B):Ln.lineL n (rowT s)=[⟨n,2,rowA s⟩]:=by
 have a:Ln.lead (rowT s)=rowA s:=rfl;obtain⟨e,b⟩:=qt s;have c:Ln.tail (rowA s)=rowA s:=by
  unfold Ln.tail;rw[b,List.reverse_append];simp
 have d:Ln.says (rowT s)=true:=by unfold Ln.says;rw[a];rfl
 unfold Ln.lineL Ln.lineOf;rw[if_pos d,a,c];simp[rowT]
 omega
theorem jK(s:B):Ln.trouble (rowT s)=0:=by
 unfold Ln.trouble;rw[dK _ (ej s),show Ln.markB (rowT s)=false from rfl];rfl
def zv:Int->List B->List (Int × B)
 |_,[]=>[]
 |n,s::r=>(n,s)::zv (n+2) r
theorem jb:∀(a:List B) (n:Int),(zv n a).map (·.2)=a
 | [],_=>rfl
 |s::r,n=>by rw[zv,List.map_cons,jb r]
theorem kB:∀(a:List B) (n:Int),Ln.lns n (a.flatMap λs=>[rowT s,[]])=(zv n a).map λx=>⟨x.1,2,rowA x.2⟩
 | [],_=>rfl
 |s::r,n=>by
  rw[List.flatMap_cons,List.cons_append,List.cons_append,List.nil_append,Ln.lns,Ln.lns,rj,show Ln.lineL (n+1) []=[]from rfl,show n+1+1=n+2 by omega,kB r (n+2),zv];rfl
theorem fw:∀a:List B,(∀s∈a,right s=true)->right (textA a)=true
 | [],_=>Ln.dF
 |s::r,h=>by
  have b:=fw r λx c=>h x (by simp[c]);have e:textA (s::r)=[32,32,45,32,32,32]++(quote s++([32,32,32,35,32,110,111,116,101,10,10]++textA r)):=by simp[textA,rowT,rowA]
  rw[e,Ln.aS _ _ (by decide)];exact dh s _ (h s (by simp)) (by rw[Ln.aS _ _ (by decide)];exact b)
theorem cT:∀a:List B,(∀s∈a,s.length<=20)->(textA a).length<=a.length * 99
 | [],_=>by simp[textA]
 |s::r,h=>by
  have d:=h s (by simp);have b:=cT r λx c=>h x (by simp[c]);have e:=aD s;simp only[textA,List.flatMap_cons,zP,zO,List.length_nil,rowT,rowA]at b ⊢;rw[Nat.add_mul];omega
theorem lR(a:List B)(g:a.length<=9)(d:∀s∈a,s.length<=20/\right s=true):Ln.split (textA a)=((zv 1 a).map λx=>⟨x.1,2,rowA x.2⟩,0,0):=by
 have i:=cT a λs b=>(d s b).1;rw[eS _ (by omega) (fw a λs b=>(d s b).2) ?_,ef,kB];rw[ef];intro f e;obtain⟨s,_,c⟩:=List.mem_flatMap.1 e;simp only[List.mem_cons,List.not_mem_nil,or_false]at c;rcases c with rfl|rfl
 ·exact jK s
 ·rfl
theorem ek:∀(c:List B),∀b∈rowB c,32<=b.toNat/\b.toNat≠127
 | [],b,a=>by simp only[rowB,List.mem_cons,List.not_mem_nil,or_false]at a;subst a;decide
 |s::r,b,a=>by
  simp only[rowB,List.mem_append,List.mem_cons]at a;rcases a with a|rfl|rfl|rfl|a
  ·exact fD s b a
  ·decide
  ·decide
  ·decide
  ·exact ek r b a
theorem el:∀a:List B,(∀s∈a,right s=true)->right (rowB a)=true
 | [],_=>Ln.aH [93] (by decide)
 |s::r,h=>by
  rw[rowB];refine dh s _ (h s (by simp)) ?_;rw[Ln.aR _ _ (by decide),Ln.aR _ _ (by decide),Ln.aR _ _ (by decide)];exact el r λx b=>h x (by simp[b])
theorem fu:∀a:List B,(∀s∈a,s.length<=20)->(rowB a).length<=a.length * 85+1
 | [],_=>by simp[rowB]
 |s::r,h=>by
  have d:=h s (by simp);have b:=fu r λx c=>h x (by simp[c]);have e:=aD s;simp only[rowB,zP,zO]at b ⊢;rw[Nat.add_mul];omega
theorem jW:∀c:List B,∃a,rowB c=a++[93]
 | []=>⟨[],rfl⟩
 |s::r=>by obtain⟨a,b⟩:=jW r;exact⟨quote s++32::44::32::a,by rw[rowB,b];simp⟩
theorem lQ(a:List B)(r:a.length<=9)(j:∀s∈a,s.length<=20/\right s=true):Ln.split (91::rowB a)=([⟨1,0,91::rowB a⟩],0,0):=by
 have q:=fu a λs c=>(j s c).1;have f:∀b∈91::rowB a,32<=b.toNat/\b.toNat≠127:=by
  intro b d;rcases List.mem_cons.1 d with rfl|d
  ·decide
  ·exact ek a b d
 have g:Ln.rows (91::rowB a)=[91::rowB a]:=Ln.jU _ (by simp) λn l e=>by have:=(f n l).1;rw[e]at this;exact absurd this (by decide)
 obtain⟨t,o⟩:=jW a;have m:Ln.lead (91::rowB a)=91::rowB a:=rfl;have k:Ln.tail (91::rowB a)=91::rowB a:=by
  unfold Ln.tail;rw[o,<-List.cons_append,List.reverse_append];simp
 rw[eS _ (by simp;omega) (by rw[Ln.aR _ _ (by decide)];exact el a λs c=>(j s c).2) ?_,g]
 ·rw[Ln.lns,Ln.lns,Ln.lineL,if_pos (show Ln.says (91::rowB a)=true from rfl),Ln.lineOf,m,k]
  simp
 ·rw[g]
  intro p i;rw[List.mem_singleton]at i;subst i;unfold Ln.trouble;rw[dK _ f,show Ln.markB (91::rowB a)=false from rfl];rfl
def ents:List Ln.Line->Option (List En)
 | []=>W []
 |x::r=>match toks 9000 0 true 0 x.s,ents r with
  |some t,W es=>if t.isEmpty then O else W (⟨x.no,x.ind,t⟩::es)
  |_,_=>O
theorem dz:∀(n e:Nat) (b:Bool) (a:Nat) (l:B) (f:List Tk) (m:Nat),toks n e b a l=W f->n<=m->toks m e b a l=W f
 |0,_,_,_,_,_,_,h,_=>by simp[toks]at h
 |n+1,e,b,a,[],f,0,h,hm=>by omega
 |n+1,e,b,a,[],f,m+1,h,hm=>h
 |n+1,e,b,a,c::t,f,0,h,hm=>by omega
 |n+1,e,b,a,c::t,f,m+1,h,hm=>by
  rw[cH]at h ⊢;by_cases j:c.toNat=32
  ·rw[if_pos j]at h ⊢;exact dz n _ _ _ _ _ m h (by omega)
  ·rw[if_neg j]at h ⊢
   by_cases i:c.toNat=35/\b=true
   ·rw[if_pos i]at h ⊢;exact h
   ·rw[if_neg i]at h ⊢
    cases g:one e b (c::t) with
    |none=>rw[g]at h;exact absurd h (by simp)
    |some x=>
     obtain⟨k,s,d,p⟩:=x;rw[g]at h;simp only at h ⊢;obtain⟨q,o,rfl⟩:=zN.1 h;rw[dz n _ _ _ _ _ m o (by omega)];rfl
theorem uK:∀(a:List (Int × B)),ents (a.map λx=>⟨x.1,2,rowA x.2⟩)=W (a.map λx=>⟨x.1,2,[⟨5,[],0⟩,⟨2,x.2,4⟩]⟩)
 | []=>rfl
 |x::r=>by
  rw[List.map_cons,ents,uK r,dz _ _ _ _ _ _ 9000 (pS x.2) (by omega)];rfl
theorem di:∀(a:List B) (n:Int),(zv n a).length=a.length
 | [],_=>rfl
 |s::r,n=>by rw[zv,zO,zO,di r]
end Tp
namespace Go.Proofs.YtbikgdhbiebhcaaGreatDoor
open Go.RowKit Tryz
def yy(a:Int):List Int:=
 if a=10 then [92,110]else if a=9 then [92,116]else if a=13 then [92,114]else if a=34\/a=92 then [92,a]
 else if 32<=a/\a≠127 then [a]else [92,120,(Tp.hexD (a.toNat / 16)).toNat,(Tp.hexD (a.toNat % 16)).toNat]
theorem uk(l:Ln.B):Ln.dec l=Lib.decodeL l:=by rw[Lib.decodeL_N];rfl
theorem gw(a:UInt8)(b:a.toNat < 128):Lib.runeCells (a.toNat:Int)=Lib.byteCells [a]:=by
 simp[Lib.runeCells,Lib.encodeRuneZ_one (show (0:Int)<=(a.toNat:Int)by omega) (by omega),Lib.byteCells]
theorem bc(a b:Ln.B):Lib.byteCells (a++b)=Lib.byteCells a++Lib.byteCells b:=by simp[Lib.byteCells]
theorem nN:∀l:Ln.B,(∀a∈l,a.toNat < 128)->(l.map λa=>(a.toNat:Int)).flatMap Lib.runeCells=Lib.byteCells l
 | [],_=>rfl
 |a::l,h=>by
  rw[List.map_cons,List.flatMap_cons,gw a (h a (by simp)),nN l λx b=>h x (by simp[b]),<-bc];rfl
theorem ma(a:UInt8)(o:a.toNat < 128):yy (a.toNat:Int)=(Tp.esc a).map λa=>(a.toNat:Int):=by
 unfold yy Tp.esc;have k:((a.toNat:Int)=10)=(a.toNat=10):=by simp only[eq_iff_iff];omega
 have l:((a.toNat:Int)=9)=(a.toNat=9):=by simp only[eq_iff_iff];omega
 have i:((a.toNat:Int)=13)=(a.toNat=13):=by simp only[eq_iff_iff];omega
 have g:((a.toNat:Int)=34)=(a.toNat=34):=by simp only[eq_iff_iff];omega
 have m:((a.toNat:Int)=92)=(a.toNat=92):=by simp only[eq_iff_iff];omega
 have n:((a.toNat:Int)=127)=(a.toNat=127):=by simp only[eq_iff_iff];omega
 simp only[k,l,i,g,m,n,ne_eq,Int.toNat_natCast];by_cases c:a.toNat=10
 ·simp[c]
 by_cases b:a.toNat=9
 ·simp[b]
 by_cases d:a.toNat=13
 ·simp[d]
 by_cases f:a.toNat=34\/a.toNat=92
 ·simp[c,b,d,f]
 by_cases j:a.toNat < 32\/a.toNat=127
 ·have e:¬((32:Int)<=(a.toNat:Int)/\¬a.toNat=127):=by omega
  simp[c,b,d,f,j,e]
 ·have e:((32:Int)<=(a.toNat:Int)/\¬a.toNat=127):=by omega
  simp[c,b,d,f,e,show ¬a.toNat < 32 by omega]
theorem lV(l:Ln.B)(b:l≠[])(j:Ln.dec l≠(65533,1)):(yy ((Ln.dec l).1:Int)).flatMap Lib.runeCells=Lib.byteCells ((l.take (Ln.dec l).2).flatMap Tp.esc):=by
 obtain⟨a,t,rfl⟩:=List.exists_cons_of_ne_nil b;by_cases d:a.toNat < 128
 ·rw[Ln.aM a t d,ma a d,nN _ (Tp.rQ a d).1]
  simp
 ·obtain⟨p,k⟩:=Ln.c8 (a::t) (show 128<=a.toNat by omega)
  have m:yy ((Ln.dec (a::t)).1:Int)=[((Ln.dec (a::t)).1:Int)]:=by
   unfold yy;rw[if_neg (by omega),if_neg (by omega),if_neg (by omega),if_neg (by omega),if_pos (by omega)]
  have o:=Ln.dX (a::t) b;have c:∀f∈(a::t).take (Ln.dec (a::t)).2,128<=f.toNat:=by
   intro f c;obtain⟨i,n,rfl⟩:=List.getElem_of_mem c;rw[List.length_take]at n;have:=k i (by omega);unfold Ln.nat at this;rw[zY,zE (by omega)]at this;rw[List.getElem_take];exact this
  rw[m,Tp.dU _ c,List.flatMap_cons,List.flatMap_nil,List.append_nil];have e:=Lib.encode_decode (a::t) b (by rw[<-uk];intro g;exact j (Prod.ext g.1 g.2));rw[<-uk]at e;rw[<-e,Lib.byteCells_encodeRune]
theorem vG(a:Int)(d:(0<=a/\a < 32)\/a=127):(∀b,(binOp .shr 21 (V .i32 a) (V .u64 4)).run π b=.ok (V .i32 (a / 16)) b)/\
 (∀b,(Instr.index 9 (U ⟨#[48,49,50,51,52,53,54,55,56,57,97,98,99,100,101,102]⟩) (V .i32 (a / 16))).run π b=.ok (V .u8 ((Tp.hexD (a.toNat / 16)).toNat:Int)) b)/\
 (∀b,(convert 5 21 (V .u8 ((Tp.hexD (a.toNat / 16)).toNat:Int))).run π b=.ok (V .i32 ((Tp.hexD (a.toNat / 16)).toNat:Int)) b)/\
 bits BinOp.and IntKind.i32 a 15=a % 16/\
 (∀b,(Instr.index 9 (U ⟨#[48,49,50,51,52,53,54,55,56,57,97,98,99,100,101,102]⟩) (V .i32 (a % 16))).run π b=.ok (V .u8 ((Tp.hexD (a.toNat % 16)).toNat:Int)) b)/\
 (∀b,(convert 5 21 (V .u8 ((Tp.hexD (a.toNat % 16)).toNat:Int))).run π b=.ok (V .i32 ((Tp.hexD (a.toNat % 16)).toNat:Int)) b):=by
 have c:a=0\/a=1\/a=2\/a=3\/a=4\/a=5\/a=6\/a=7\/a=8\/a=9\/a=10\/a=11\/a=12\/a=13\/a=14\/a=15\/a=16\/a=17\/a=18\/a=19\/a=20\/a=21\/a=22\/a=23\/a=24\/a=25\/a=26\/a=27\/a=28\/a=29\/a=30\/a=31\/a=127:=by omega
 rcases c with rfl|rfl|rfl|rfl|rfl|rfl|rfl|rfl|rfl|rfl|rfl|rfl|rfl|rfl|rfl|rfl|rfl|rfl|rfl|rfl|rfl|rfl|rfl|rfl|rfl|rfl|rfl|rfl|rfl|rfl|rfl|rfl|rfl;all_goals exact⟨λ_=>by kernel_rfl,λ_=>by kernel_rfl,λ_=>by kernel_rfl,by kernel_rfl,λ_=>by kernel_rfl,λ_=>by kernel_rfl⟩
theorem bu(B:Nat)(w:World)(k:Nat)(s:ByteArray)(q:Nat)(a:B<=k):Below B w (w.iterAt k s q):=by
 refine⟨rfl,rfl,rfl,by rw[Lib.iterAt_size];exact η _,λi b=>?_⟩;simp only[World.iterAt];rw[Array.getElem?_setIfInBounds_ne (by omega)]
theorem bL(w:World)(k:Nat)(s a:ByteArray)(p q:Nat)(b:w.heap[k]? =W (.stringIter a p)):(w.iterAt k s q).heap[k]? =W (.stringIter s q):=by
 simp only[World.iterAt];rw[Array.getElem?_setIfInBounds_self_of_lt (lt_of_heap b)]
theorem sw(l:Ln.B):((Ln.dec l).1=65533/\(Ln.dec l).2=1)\/¬(((Ln.dec l).1:Int)=65533/\((Ln.dec l).2:Int)=1):=by
 by_cases a:(Ln.dec l).1=65533/\(Ln.dec l).2=1
 ·exact .inl a
 ·refine .inr λb=>a ⟨by omega,by omega⟩
theorem bt(s:ByteArray)(a3:s.size<=1000000)(w:World)(S:Glob w):Calls π 11 #[U s] w λe w'=>e=ρ (β (Ln.right s.data.toList))/\Below w.heap.size w w':=by
 obtain⟨i,z⟩:∃i,Ln.right s.data.toList=i:=⟨_,rfl⟩;rw[z];obtain⟨ab,ac⟩:=zx2 S z;clear S z
 go_enter func11,ntmps11
 go_wp2_with fail
 go_loopw [3,4,5,6] (λ_ _ _ _ wr=>∃a:Nat,wr.heap[w.heap.size]? =W (.stringIter s a)/\Ln.right (s.data.toList.drop a)=i/\a<=s.size/\Below w.heap.size w wr) (λ_ _ _ _ wr=>s.size - wr.iterPos w.heap.size)
 case atStart=>exact⟨0,World.iter_heap w s 0,by rw[List.drop_zero];exact ac.out,z_ _,(ζ _ _).alloc (η _) _⟩
 case round=>
  obtain⟨a,k,q,a5,m⟩:=hrel;by_cases G:a < s.size
  ·have p:∀f,(Instr.next (Z (W ⟨w.heap.size,0,O⟩)) true f).run π wr=_:=λf=>Lib.run_next_any_at wr w.heap.size s a f k G
   rw[aX]at p;obtain⟨d,j⟩:∃d,(Ln.dec (s.data.toList.drop a)).1=d:=⟨_,rfl⟩;obtain⟨n,c⟩:∃n,(Ln.dec (s.data.toList.drop a)).2=n:=⟨_,rfl⟩;have o:s.data.toList.drop a≠[]:=by
    intro e;have:=congrArg List.length e;simp only[zZ,Array.length_toList,List.length_nil]at this;have b:s.data.size=s.size:=rfl;omega
   have a0:1<=n:=by rw[<-c];exact Ln.dq _
   have P:a+n<=s.size:=by
    have:=Ln.dX _ o;simp only[zZ,Array.length_toList]at this;have b:s.data.size=s.size:=rfl;omega
   rw[j,c]at p;have x:wr.iterPos w.heap.size=a:=by simp[World.iterPos,k]
   have av:(a:Int)<=(s.size:Int):=by omega
   have a4:(0:Int)<=(a:Int):=by omega
   have M:(s.extract a s.size).size≠0:=by
    rw[ByteArray.size_extract];omega
   have C:(s.extract a s.size).data.toList=s.data.toList.drop a:=by
    rw[ByteArray.data_extract,Array.toList_extract,List.extract_eq_take_drop];exact zR (by simp only[zZ,Array.length_toList];exact η _)
   have y:=eL (s.extract a s.size) M;rw[C]at y;have F:Lib.Utf8Tabs 0 1 (wr.iterAt w.heap.size s (a+n)):=by
    have T:Below w.heap.size w (wr.iterAt w.heap.size s (a+n)):=m.trans (bu _ _ _ _ _ (η _));exact(ab.out.step T).2.1
   have A:=utf8_DecodeRuneInString (s.extract a s.size) _ F;rw[y,j,c]at A;clear y C M F;have l:=sw (s.data.toList.drop a);rw[j,c]at l;have R:d=65533/\n=1->i=false:=by
    rintro ⟨rfl,rfl⟩;rw[<-q,Ln.cJ _ o (Prod.ext j c)]
   have E:¬((d:Int)=65533/\(n:Int)=1)->Ln.right (s.data.toList.drop (a+n))=i:=by
    intro h;rw[<-q,Ln.bF _ o (by intro e;exact h ⟨by have:=congrArg Prod.fst e;rw[j]at this;simp only at this;omega,by have:=congrArg Prod.snd e;rw[c]at this;simp only at this;omega⟩),c,List.drop_drop]
   obtain⟨an,X,L,H⟩:=zx4 E R m k;clear E R q j c o m k
   go_wp2_with fail
   refine A.mono ?_;rintro e t ⟨rfl,N⟩;have u:Below w.heap.size w t:=(L.out.trans (bu _ _ _ _ _ (η _))).trans (N.mono (by rw[Lib.iterAt_size];exact L.out.size));have r:t.heap[w.heap.size]? =W (.stringIter s (a+n)):=(N.block _ (by rw[Lib.iterAt_size];exact lt_of_heap H.out)).trans (bL _ _ _ _ _ _ H.out);have v:t.iterPos w.heap.size=a+n:=by simp[World.iterPos,r]
   rcases l with ⟨g,b⟩|l
   ·obtain rfl:=X.out ⟨g,b⟩
    have a2:(d:Int)=65533:=by omega
    have a1:(n:Int)=1:=by omega
    clear g b A p x v
    go_wp2_with fail
    go_ret
    exact⟨rfl,u⟩
   ·have D:=an.out l
    have ad:(d:Int)=65533->¬(n:Int)=1:=λg b=>l ⟨g,b⟩;by_cases g:(d:Int)=65533
    ·have b:=ad g
     go_wp2_with fail
     go_roundw
     case rel=>exact⟨a+n,r,D,P,u⟩
     case measure=>rw[v,x];omega
    ·go_wp2_with fail
     go_roundw
     case rel=>exact⟨a+n,r,D,P,u⟩
     case measure=>rw[v,x];omega
  ·have p:∀f,(Instr.next (Z (W ⟨w.heap.size,0,O⟩)) true f).run π wr=_:=λf=>Lib.run_next_end_at wr w.heap.size s a f k G
   have ao:i=true:=by
    rw[<-q,List.drop_eq_nil_of_le (by have b:s.data.size=s.size:=rfl;simp only[Array.length_toList];omega),Ln.dF]
   subst ao
   go_wp2_with fail
   go_ret
   exact⟨rfl,m⟩
theorem su(l:Ln.B):(0:Int)<=((Ln.dec l).1:Int)/\((Ln.dec l).1:Int)<=2147483647:=by
 refine⟨by omega,?_⟩;unfold Ln.dec;have c:=Ln.kq l 0;have b:=Ln.kq l 1;have a:=Ln.kq l 2;have d:=Ln.kq l 3;rcases Lib.decodeN_shape l.length (Ln.nat l 0) (Ln.nat l 1) (Ln.nat l 2) (Ln.nat l 3)with ⟨_,e⟩|⟨_,_,_,_,e⟩|⟨_,_,_,_,_,_,e⟩|⟨_,_,_,_,_,_,_,e⟩|e;all_goals rw[e]
 all_goals simp only
 all_goals omega
theorem rR(l:Ln.B):(l.flatMap Tp.esc).length<=4 * l.length:=by
 have:=(Tp.aD l).2;simp only[Tp.quote,zO,zP,List.length_nil]at this;omega
theorem cE{T e:TypeId}{B c:Nat}{b:List Value}{w w':World}(a:Lib.IsBuilderF T e B c b w)(f:Below w.heap.size w w'):Lib.IsBuilderF T e B c b w':=by
 have i:∀p,Lib.BuilderAtF T e B c p b w->Lib.BuilderAtF T e B c p b w':=by
  rintro p ⟨q,v,j,d,l⟩;refine⟨q,v,(f.block _ (lt_of_heap j)).trans j,⟨d.1,?_⟩,l⟩;rcases d.2 with a|⟨g,cap,o,n,rfl,m,k,rest⟩
  ·exact .inl a
  ·exact .inr ⟨g,cap,o,n,rfl,m,(f.block _ (lt_of_heap k)).trans k,rest⟩
 rcases a with a|a
 ·exact .inl (i _ a)
 ·exact .inr (i _ a)
theorem bo(w:World):Lib.IsBuilderF 38 5 w.heap.size w.heap.size [] (w.alloc (J #[Z O,Y O 0 0] 38)):=
 .inl ⟨η _,Y O 0 0,af w _,World.ownsRowF_of (World.ownsRow_nil _ _ _ _),by simp[Value.ownBlock]⟩
theorem qC(s:ByteArray)(g:s.size<=1000)(b:Ln.right s.data.toList=false)(w:World)(d:Glob w):Calls π 6 #[U s] w λe w'=>e=ρ (.tuple #[U ⟨#[]⟩,V I 40])/\Below w.heap.size w w':=by
 have a:=bt s (by omega) w d;rw[b]at a
 go_enter func6,ntmps6
 go_wp2_with fail
 refine a.mono ?_;rintro e f ⟨rfl,c⟩
 go_wp2_with fail
 go_ret2
 exact⟨rfl,c⟩
theorem j3(s:ByteArray)(d6:s.size<=1000)(a0:Ln.right s.data.toList=true)(w:World)(b1:Glob w):Calls π 6 #[U s] w λe w'=>e=ρ (.tuple #[U ⟨(Tp.quote s.data.toList).toArray⟩,V I 0])/\Below w.heap.size w w':=by
 have b3:=bt s (by omega) w b1;rw[a0]at b3
 go_enter func6,ntmps6
 go_wp2_with fail
 refine b3.mono ?_;rintro e bs ⟨rfl,bk⟩;clear b3;have c3:=(bo bs).alloc (J #[V .i32 34] 21);obtain⟨c,bR⟩:∃c,bs.heap.size=c:=⟨_,rfl⟩;have g:=cN c c [] [34] (c+1) 1 rfl (by omega) (by simp) ((bs.alloc (J #[Z O,.slice O 0 0] 38)).alloc (J #[V .i32 34] 21)) (by rw[<-bR];exact c3) (by simp) (by simp;omega) (by rw[<-bR];exact ah _ _ _ (by simp)) (by omega);have b0:w.heap.size<=c:=by rw[<-bR];exact bk.size
 have co:Below w.heap.size w ((bs.alloc (J #[Z O,.slice O 0 0] 38)).alloc (J #[V .i32 34] 21)):=(bk.alloc bk.size _).alloc (by simp;have:=bk.size;omega) _
 go_wp2_with fail
 refine g.mono ?_;rintro e bx ⟨rfl,ao,R,j⟩;have P:Below w.heap.size w bx:=co.trans (R.mono b0);have d3:c < bx.heap.size:=by have:=R.size;simp at this;omega
 clear g c3 co R j bk;obtain⟨f,dn⟩:∃f,bx.heap.size=f:=⟨_,rfl⟩;obtain⟨ei,d0,c1⟩:=zx3 b1 a0 P;clear b1 a0 P
 go_wp2_with fail
 go_loopw [7,8,9,39,45,53] (λ_ _ _ _ _ _ wr=>∃b:Nat,wr.heap[f]? =some (.stringIter s b)/\Ln.right (s.data.toList.drop b)=true/\b<=s.size/\Below w.heap.size w wr/\Lib.IsBuilderF 38 5 c c (Lib.byteCells (34::(s.data.toList.take b).flatMap Tp.esc)) wr) (λ_ _ _ _ _ _ wr=>s.size - wr.iterPos f)
 case atStart=>exact⟨0,by rw[<-dn];exact World.iter_heap bx s 0,by rw[List.drop_zero];exact d0.out,z_ _,c1.out.alloc c1.out.size _,ao.alloc _⟩
 case round=>
  obtain⟨b,q,bb,eg,R,ao⟩:=hrel;by_cases ba:b < s.size
  ·have bn:∀X,(Instr.next (Z (some ⟨f,0,O⟩)) true X).run π wr=_:=λX=>Lib.run_next_any_at wr f s b X q ba
   rw[aX]at bn;have a2:s.data.toList.drop b≠[]:=by
    intro e;have:=congrArg List.length e;simp only[zZ,ap,List.length_nil]at this;omega
   have a9:Ln.dec (s.data.toList.drop b)≠(65533,1):=by
    intro e;rw[Ln.cJ _ a2 e]at bb;simp at bb
   have H:=lV _ a2 a9;have bm:=Ln.bF _ a2 a9;rw[bb,List.drop_drop]at bm;have c6:=Ln.dq (s.data.toList.drop b);have y:=Ln.dX _ a2;have cc:=su (s.data.toList.drop b);rw[zZ,ap]at y;have b8:s.data.toList.take (b+(Ln.dec (s.data.toList.drop b)).2)=s.data.toList.take b++(s.data.toList.drop b).take (Ln.dec (s.data.toList.drop b)).2:=List.take_add;obtain⟨n,c4⟩:∃n,(Ln.dec (s.data.toList.drop b)).2=n:=⟨_,rfl⟩;obtain⟨a,a0⟩:∃a:Int,((Ln.dec (s.data.toList.drop b)).1:Int)=a:=⟨_,rfl⟩;rw[c4]at bn bm c6 y b8 H;rw[a0]at bn H cc;have y:b+n<=s.size:=by omega
   have c2:∀W,Lib.IsBuilderF 38 5 c c (Lib.byteCells (34::(s.data.toList.take b).flatMap Tp.esc)++(yy a).flatMap Lib.runeCells) W->Lib.IsBuilderF 38 5 c c (Lib.byteCells (34::(s.data.toList.take (b+n)).flatMap Tp.esc)) W:=by
    intro W h;rw[H,<-bc]at h;rw[b8,List.flatMap_append];exact h
   have da:(Lib.byteCells (34::(s.data.toList.take b).flatMap Tp.esc)).length+16<=1000000:=by
    rw[Lib.byteCells_length,zO];have:=rR (s.data.toList.take b);have:=List.length_take_le b s.data.toList;omega
   have ac:wr.iterPos f=b:=by simp[World.iterPos,q]
   have b6:=ao.iterAt q (b+n);have ch:=bL wr f s s b (b+n) q;have ck:Below w.heap.size w (wr.iterAt f s (b+n)):=R.trans (bu _ _ _ _ _ (by omega));have dv:(wr.iterAt f s (b+n)).heap.size=wr.heap.size:=Lib.iterAt_size ..;have d4:f < wr.heap.size:=lt_of_heap q;have ad:=zD bm.symm;have S:=zD c2;obtain⟨D,cb⟩:∃D,Lib.byteCells (34::(s.data.toList.take b).flatMap Tp.esc)=D:=⟨_,rfl⟩;rw[cb]at S da b6;generalize hW:wr.iterAt f s (b+n)=W at *;clear bm c2 H b8 c4 a0 a2 a9 bb ao cb R q
   go_wp2_with fail
   refine(qg W).mono ?_;rintro e d ⟨rfl,C,P⟩;have F:=zD (ck.trans (P.mono (by omega)));have M:=cE b6 P;have bw:=zD ((P.block f (by omega)).trans ch);have en:f < d.heap.size:=by have:=P.size;omega
   have d5:w.heap.size<=d.heap.size:=F.out.size;rw[dv]at C;clear ck P b6 ch;by_cases a6:a=10
   ·obtain rfl:a=10:=a6
    have G:=C.look_in mA underlying46 (zeroValue21 d) (V .i32 10) (eP 10 (by decide) (by decide)) true (V .i32 110) (by simp[yX]) (by simp[yX]);have g:=cN c c _ [92,110] d.heap.size 2 rfl (by omega) (by simp) (d.alloc (J #[V .i32 92,V .i32 110] 21)) (M.alloc _) (by omega) (by simp;omega) (af d _) (by omega);have z:=F.out.alloc F.out.size (J #[V .i32 92,V .i32 110] 21);clear C M
    go_wp2_with fail
    refine g.mono ?_;rintro e k ⟨rfl,A,l,j⟩;have N:=j _ _ (aa _ bw.out) (by simp;omega) (λan av e=>by cases e);clear g G
    go_wp2_with fail
    go_roundw
    case rel=>exact⟨_,N,ad.out,y,z.trans (l.mono (by omega)),S.out _ A⟩
    case measure=>rw[show k.iterPos f=b+n by simp[World.iterPos,N],ac];omega
   by_cases be:a=9
   ·obtain rfl:a=9:=be
    have G:=C.look_in mA underlying46 (zeroValue21 d) (V .i32 9) (eP 9 (by decide) (by decide)) true (V .i32 116) (by simp[yX]) (by simp[yX]);have g:=cN c c _ [92,116] d.heap.size 2 rfl (by omega) (by simp) (d.alloc (J #[V .i32 92,V .i32 116] 21)) (M.alloc _) (by omega) (by simp;omega) (af d _) (by omega);have z:=F.out.alloc F.out.size (J #[V .i32 92,V .i32 116] 21);clear C M
    go_wp2_with fail
    refine g.mono ?_;rintro e k ⟨rfl,A,l,j⟩;have N:=j _ _ (aa _ bw.out) (by simp;omega) (λan av e=>by cases e);clear g G
    go_wp2_with fail
    go_roundw
    case rel=>exact⟨_,N,ad.out,y,z.trans (l.mono (by omega)),S.out _ A⟩
    case measure=>rw[show k.iterPos f=b+n by simp[World.iterPos,N],ac];omega
   by_cases a1:a=13
   ·obtain rfl:a=13:=a1
    have G:=C.look_in mA underlying46 (zeroValue21 d) (V .i32 13) (eP 13 (by decide) (by decide)) true (V .i32 114) (by simp[yX]) (by simp[yX]);have g:=cN c c _ [92,114] d.heap.size 2 rfl (by omega) (by simp) (d.alloc (J #[V .i32 92,V .i32 114] 21)) (M.alloc _) (by omega) (by simp;omega) (af d _) (by omega);have z:=F.out.alloc F.out.size (J #[V .i32 92,V .i32 114] 21);clear C M
    go_wp2_with fail
    refine g.mono ?_;rintro e k ⟨rfl,A,l,j⟩;have N:=j _ _ (aa _ bw.out) (by simp;omega) (λan av e=>by cases e);clear g G
    go_wp2_with fail
    go_roundw
    case rel=>exact⟨_,N,ad.out,y,z.trans (l.mono (by omega)),S.out _ A⟩
    case measure=>rw[show k.iterPos f=b+n by simp[World.iterPos,N],ac];omega
   have cf:∀p∈yX,p.1≠V .i32 a:=by
    intro p ba e;simp only[yX,List.mem_cons,List.not_mem_nil,or_false]at ba;rcases ba with rfl|rfl|rfl
    ·exact a6 (by injection e with _ e;exact e.symm)
    ·exact be (by injection e with _ e;exact e.symm)
    ·exact a1 (by injection e with _ e;exact e.symm)
   have G:=C.look_out mA underlying46 (zeroValue21 d) (V .i32 a) (eP a (by omega) cc.2) true cf;have ca:RA (d.alloc (J #[V .i32 34,V .i32 92] 21)) (some ⟨d.heap.size,0,O⟩) d.heap.size 0 ([34,92].map (Value.int .i32)):=λ_=>⟨rfl,by simp,λi v a9=>by rw[Nat.zero_add,ae (af _ _) i];simpa using a9⟩;have L:=cn a [34,92] _ _ 0 2 2 rfl (by omega) _ ca;have z:=F.out.alloc F.out.size (J #[V .i32 34,V .i32 92] 21);have A:=M.alloc (J #[V .i32 34,V .i32 92] 21);have b2:=zD (aa (J #[V .i32 34,V .i32 92] 21) bw.out);clear C M ca;by_cases H:a=34\/a=92
   ·rw[show decide (a∈[34,92])=true by simp[H]]at L
    have T:yy a=[92,a]:=by unfold yy;rw[if_neg a6,if_neg be,if_neg a1,if_pos H]
    go_wp2_with fail
    refine L.mono ?_;rintro e w5 ⟨rfl,rfl⟩;clear L G;have g:=cN c c _ [92,a] (d.heap.size+1) 2 rfl (by omega) (by intro x a4;simp at a4;omega) ((d.alloc (J #[V .i32 34,V .i32 92] 21)).alloc (J #[V .i32 92,V .i32 a] 21)) (A.alloc _) (by omega) (by simp;omega) (ah _ _ _ (by simp)) (by omega);have l:=z.alloc (by simp;omega) (J #[V .i32 92,V .i32 a] 21)
    go_wp2_with fail
    refine g.mono ?_;rintro e k ⟨rfl,E,t,j⟩;have o:=j _ _ (aa _ b2.out) (by simp;omega) (λan av e=>by cases e);clear g
    go_wp2_with fail
    go_roundw
    case rel=>exact⟨_,o,ad.out,y,l.trans (t.mono (by omega)),S.out _ (by rw[T];exact E)⟩
    case measure=>rw[show k.iterPos f=b+n by simp[World.iterPos,o],ac];omega
   rw[show decide (a∈[34,92])=false by simp;omega]at L;by_cases b4:32<=a/\a≠127
   ·have ab:=em a (d.alloc (J #[V .i32 34,V .i32 92] 21))
    rw[show (decide (32<=a)&&!decide (a=127))=true by simp[b4]]at ab;have T:yy a=[a]:=by unfold yy;rw[if_neg a6,if_neg be,if_neg a1,if_neg H,if_pos b4]
    go_wp2_with fail
    refine L.mono ?_;rintro e w5 ⟨rfl,rfl⟩;clear L G
    go_wp2_with fail
    refine ab.mono ?_;rintro e w5 ⟨rfl,rfl⟩;clear ab;have g:=cN c c _ [a] (d.heap.size+1) 1 rfl (by omega) (by intro x a4;simp at a4;omega) ((d.alloc (J #[V .i32 34,V .i32 92] 21)).alloc (J #[V .i32 a] 21)) (A.alloc _) (by omega) (by simp;omega) (ah _ _ _ (by simp)) (by omega);have l:=z.alloc (by simp;omega) (J #[V .i32 a] 21)
    go_wp2_with fail
    refine g.mono ?_;rintro e k ⟨rfl,E,t,j⟩;have o:=j _ _ (aa _ b2.out) (by simp;omega) (λan av e=>by cases e);clear g
    go_wp2_with fail
    go_roundw
    case rel=>exact⟨_,o,ad.out,y,l.trans (t.mono (by omega)),S.out _ (by rw[T];exact E)⟩
    case measure=>rw[show k.iterPos f=b+n by simp[World.iterPos,o],ac];omega
   have ab:=em a (d.alloc (J #[V .i32 34,V .i32 92] 21));rw[show (decide (32<=a)&&!decide (a=127))=false by simp;omega]at ab;have T:yy a=[92,120,((Tp.hexD (a.toNat / 16)).toNat:Int),((Tp.hexD (a.toNat % 16)).toNat:Int)]:=by unfold yy;rw[if_neg a6,if_neg be,if_neg a1,if_neg H,if_neg b4]
   go_wp2_with fail
   refine L.mono ?_;rintro e w5 ⟨rfl,rfl⟩;clear L G
   go_wp2_with fail
   refine ab.mono ?_;rintro e w5 ⟨rfl,rfl⟩;clear ab;obtain⟨eq,dc,dp,df,ct,d2⟩:=vG a (by omega);obtain⟨r,bD⟩:∃r:Int,((Tp.hexD (a.toNat / 16)).toNat:Int)=r:=⟨_,rfl⟩;obtain⟨u,b9⟩:∃u:Int,((Tp.hexD (a.toNat % 16)).toNat:Int)=u:=⟨_,rfl⟩;obtain⟨es,cl⟩:∃m:Int,a % 16=m:=⟨_,rfl⟩;rw[cl]at df ct;clear cl;rw[bD]at dc dp;rw[b9]at ct d2;rw[bD,b9]at T;generalize hY:d.alloc (J #[V .i32 34,V .i32 92] 21)=Y at *;have ex:(0<=r/\r<=255)/\0<=u/\u<=255:=by
    have:=UInt8.toNat_lt (Tp.hexD (a.toNat / 16));have:=UInt8.toNat_lt (Tp.hexD (a.toNat % 16));omega
   have d1:Y.heap.size=d.heap.size+1:=by rw[<-hY];simp
   have g:=cN c c _ [92,120,r,u] (d.heap.size+1) 4 rfl (by omega) (by intro x a4;simp at a4;omega) (Y.alloc (J #[V .i32 92,V .i32 120,V .i32 r,V .i32 u] 21)).drew (A.alloc _) (by omega) (by show c<=(Y.alloc _).heap.size;simp;omega) (by rw[<-d1];exact af Y _) (by omega);have dr:=zD g;have l:Below w.heap.size w (Y.alloc (J #[V .i32 92,V .i32 120,V .i32 r,V .i32 u] 21)).drew:=(z.alloc (by omega) (J #[V .i32 92,V .i32 120,V .i32 r,V .i32 u] 21)).drew;have c5:=zD l;have c0:(Y.alloc (J #[V .i32 92,V .i32 120,V .i32 r,V .i32 u] 21)).drew.heap[f]? =some (.stringIter s (b+n)):=aa (J #[V .i32 92,V .i32 120,V .i32 r,V .i32 u] 21) b2.out;have cm:=zD c0;clear l c0;clear cf bD b9 g
   go_wp2_with fail
   go_region_held3 (λ_=>True) (exact trivial) (first|(go_at_call 12;refine(dr.out).mono ?_;rintro e k ⟨rfl,E,t,j⟩))
   have o:=j _ _ cm.out (by simp;omega) (λan av e=>by cases e);have b5:=S.out _ (by rw[T];exact E);have a5:=c5.out.trans (t.mono (by omega));clear E t j
   go_wp2_with fail
   go_roundw
   case rel=>exact⟨_,o,ad.out,y,a5,b5⟩
   case measure=>rw[show k.iterPos f=b+n by simp[World.iterPos,o],ac];omega
   case roundEnd=>
    have o:=j _ _ cm.out (by simp;omega) (λan av e=>by cases e);have b5:=S.out _ (by rw[T];exact E);have a5:=c5.out.trans (t.mono (by omega));exact⟨⟨_,o,ad.out,y,a5,b5⟩,by rw[show k.iterPos f=b+n by simp[World.iterPos,o],ac];omega⟩
  ·have bn:∀X,(Instr.next (Z (some ⟨f,0,O⟩)) true X).run π wr=_:=λX=>Lib.run_next_end_at wr f s b X q ba
   have g:=cN c c _ [34] wr.heap.size 1 rfl (by omega) (by simp) (wr.alloc (J #[V .i32 34] 21)) (ao.alloc _) (by
    rw[Lib.byteCells_length,zO];have:=rR (s.data.toList.take b);have:=List.length_take_le b s.data.toList;omega) (by simp;have:=lt_of_heap q;omega) (af wr _) (by have:=lt_of_heap q;omega)
   have ds:=R.alloc R.size (J #[V .i32 34] 21);have er:=lt_of_heap q;rw[zR (by rw[ap];omega)]at g;clear q ao bb
   go_wp2_with fail
   refine g.mono ?_;rintro e k ⟨rfl,E,t,j⟩;have a5:=ds.trans (t.mono b0);have c9:=Tryz.Builder_String_any_f c c (Tp.quote s.data.toList) k (by
    rw[show Lib.byteCells (Tp.quote s.data.toList)=Lib.byteCells (34::s.data.toList.flatMap Tp.esc)++[34].flatMap Lib.runeCells from bc (34::s.data.toList.flatMap Tp.esc) [34]];exact E) (by have:=t.size;simp at this;omega)
   clear g
   go_wp2_with fail
   refine c9.mono ?_;rintro e w5 ⟨rfl,_,db⟩
   go_wp2_with fail
   go_ret2
   exact⟨rfl,a5.trans (db.mono b0)⟩
theorem wX(w:World):(isAgg 3).run π w=.ok false w:=by kernel_rfl
theorem xE(w:World):(isAgg 9).run π w=.ok false w:=by kernel_rfl
theorem tW:prog.underlying 30=W (.struct (prog.fieldsOf 30)):=by kernel_rfl
theorem uR:prog.stoodInHeld 30=false:=by kernel_rfl
theorem vH:prog.eqGuardType prog.depth 30=false:=by kernel_rfl
theorem wH:(prog.fieldsOf 30).toList=[{ name:= "Kind",type:=3,offset:=0,embedded:=false,tag:= "",pkgPath:= "",byteOffset:=0 },{ name:= "N",type:=3,offset:=1,embedded:=false,tag:= "",pkgPath:= "",byteOffset:=8 },{ name:= "S",type:=9,offset:=2,embedded:=false,tag:= "",pkgPath:= "",byteOffset:=16 }]:=by kernel_rfl
theorem wS(d:Nat)(j i k e:Int)(g f:ByteArray)(w:World):(Op.equalIn (d+1+1) 30 (γ #[V I j,V I i,U g]) (γ #[V I k,V I e,U f])).run π w=.ok ((j==k)&&((i==e)&&(g.toList==f.toList))) w:=by
 have s:=run_equalIn_int (P:=π) w d 3 I I j k underlying3;have p:=run_equalIn_int (P:=π) w d 3 I I i e underlying3;have t:=run_equalIn_string (P:=π) w d 9 g f underlying9;rw[run_equalIn_struct (P:=π) w (d+1) 30 _ _ tW uR,wH];have q:∀(a b:Value) (c:Value),(part 3 #[a,b,c] 0).run π w=.ok a w:=λa b c=>by unfold part;simp[Sem.run_bind,wX,Result.andThen]
 have n:∀(a b:Value) (c:Value),(part 3 #[a,b,c] 1).run π w=.ok b w:=λa b c=>by unfold part;simp[Sem.run_bind,wX,Result.andThen]
 have l:∀(a b:Value) (c:Value),(part 9 #[a,b,c] 2).run π w=.ok c w:=λa b c=>by unfold part;simp[Sem.run_bind,xE,Result.andThen]
 cases o:(j==k)<;>cases m:(i==e)<;>cases r:(g.toList==f.toList)<;>simp[Op.eqFields,Sem.run_bind,q,n,l,s,p,t,o,m,r,Result.andThen]
theorem nP(c a f d:Int)(e b:ByteArray)(w:World):(Op.equalIn 10000 30 (γ #[V I c,V I a,U e]) (γ #[V I f,V I d,U b])).run π w=.ok ((c==f)&&((a==d)&&(e.toList==b.toList))) w:=wS 9998 c a f d e b w
def eqL(c a:Int)(e:ByteArray)(f d:Int)(b:ByteArray):Bool:=(c==f)&&((a==d)&&(e.toList==b.toList))
theorem jp(c a:Int)(e:ByteArray)(f d:Int)(b:ByteArray):eqL c a e f d b=decide ((c=f/\a=d)/\e.data.toList=b.data.toList):=by
 unfold eqL;rw[uP,Bool.eq_iff_iff];simp[and_assoc]
theorem xw(c a f d:Int)(e b:ByteArray)(w:World):(binOp .neq 30 (γ #[V I c,V I a,U e]) (γ #[V I f,V I d,U b])).run π w=.ok (β (!(eqL c a e f d b))) w:=by
 rw[run_neq_struct,nP];rfl
theorem xB(c a f d:Int)(e b:ByteArray)(w:World):(binOp .eql 30 (γ #[V I c,V I a,U e]) (γ #[V I f,V I d,U b])).run π w=.ok (β (eqL c a e f d b)) w:=by
 rw[run_eql_struct,nP];rfl
attribute [go_sem ↓] xB
attribute [go_sem ↓] xw
attribute [go_sem] vH
end Go.Proofs.YtbikgdhbiebhcaaGreatDoor
namespace Tp
def t1:B:=[98,58,32,91,49,93,10,97,58,32,38,120,32,91,49,93,10,99,58,32,42,120,10]
def t2:B:=[123,99,58,32,91,49,93,44,32,39,97,39,58,32,91,49,93,44,32,34,98,34,58,32,91,49,93,125,32,35,32,120]
def outT:B:=[34,97,34,58,32,38,97,49,10,32,32,45,32,49,10,34,98,34,58,32,42,97,49,10,34,99,34,58,32,42,97,49,10]
theorem nr:Ln.split t1=([⟨1,0,[98,58,32,91,49,93]⟩,⟨2,0,[97,58,32,38,120,32,91,49,93]⟩,⟨3,0,[99,58,32,42,120]⟩],0,0):=by
 rw[eS t1 (by decide) (Ln.aH _ (by decide)) (by decide)];decide
theorem nl:Ln.split t2=([⟨1,0,t2⟩],0,0):=by
 rw[eS t2 (by decide) (Ln.aH _ (by decide)) (by decide)];decide
end Tp
namespace Tp
open Ln (right plainB)
theorem fF:∀(a b:B) (c:Bool),(∀d∈a,plainC d=true)->ptake 1 c (a++58::32::b)=a.length
 | [],b,c,_=>by cases c<;>rfl
 |d::a,b,c,h=>by
  have e:=h d (by simp);simp only[plainC,Bool.or_eq_true,zQ,decide_eq_true_eq,beq_iff_eq]at e;rw[List.cons_append,ptake,if_neg ?_,fF a b _ λx f=>h x (by simp[f])]
  ·simp
  ·simp only[Bool.or_eq_true,zQ,beq_iff_eq,decide_eq_true_eq,flowC]
   omega
theorem lL(a:B)(f:∀b∈a,plainC b=true)(i:a≠[]):trimR a=a:=by
 unfold trimR;have g:a.reverse≠[]:=by simpa using i
 obtain⟨b,t,c⟩:=List.exists_cons_of_ne_nil g;have d:b∈a:=by rw[<-List.mem_reverse,c];simp
 have:=f b d;rw[c,List.dropWhile_cons_of_neg,<-c,List.reverse_reverse];simp only[beq_iff_eq];intro e;simp only[plainC,e]at this;exact absurd this (by decide)
theorem ke(a b:B)(g:Bool)(j:okPlain a=true):one 1 g (a++58::32::b)=W (1,a,1,a.length):=by
 have i:=j;simp only[okPlain,zQ,List.all_eq_true,Bool.not_eq_true',beq_eq_false_iff_ne]at i;obtain⟨⟨f,m⟩,q⟩:=i;cases a with
 |nil=>simp at m
 |cons c t=>
  have l:ptake 1 g (c::(t++58::32::b))=t.length+1:=fF (c::t) b g f;have p:=lL (c::t) f (by simp);have o:=f c (by simp);have n:(c::(t++58::32::b)).take (t.length+1)=c::t:=by rw[List.take_succ_cons,List.take_left]
  have r:c.toNat=45->isB (t++58::32::b)=false:=by
   intro e;cases t with
   |nil=>exact absurd (by rw[UInt8.toNat_inj.1 (show c.toNat=(45:UInt8).toNat from e)]) q
   |cons d t'=>
    have k:=f d (by simp);simp only[plainC,Bool.or_eq_true,zQ,decide_eq_true_eq,beq_iff_eq]at k;simp only[List.cons_append,isB,beq_eq_false_iff_ne];omega
  simp only[plainC,Bool.or_eq_true,zQ,decide_eq_true_eq,beq_iff_eq]at o;rw[List.cons_append,one];simp only[l,n,p,j,if_true,zO];rw[if_neg (by omega),if_neg (by omega)];by_cases e:c.toNat=45
  ·rw[if_pos e,r e];rfl
  ·rw[if_neg e,if_neg (by omega),if_neg (by omega),if_neg (by omega),if_neg (by omega),if_neg (by omega),if_neg (by omega)]
end Tp
namespace Go.Proofs.YtbikgdhbiebhcaaGreatDoor
open Go.RowKit Tryz
theorem gH{P:Program}{w:World}{a:Addr}(g:Fn)(x b:Array Value)(m:Mode):(store a (.func g x b) m).run P w=stored P w a (.func g x b) m:=run_store P w a _ m rfl
attribute [go_sem] gH
def xR(s:Tp.B):Value:=U ⟨s.toArray⟩
def scV(x:Tp.Sc):Value:=γ #[V I x.k,V I x.n,xR x.s]
def x8(x:Tp.Sc):Bool:=
 if x.k=0 then decide (x.n=0)&&decide (x.s=[])else if x.k=1 then decide (x.s=[])&&(decide (x.n=0)||decide (x.n=1))
 else if x.k=2 then decide (x.s=[])&&decide (-999999999999999<=x.n)&&decide (x.n<=999999999999999)else if x.k=3 then decide (x.n=0)&&Ln.right x.s else false
theorem eR(s:Tp.B):(⟨s.toArray⟩:ByteArray).data.toList=s:=rfl
theorem pZ(s:Tp.B):((⟨s.toArray⟩:ByteArray).toList==[])=decide (s=[]):=by
 rw[ByteArray.toList_eq,eR];cases s<;>simp
theorem lN(s:Tp.B):(⟨s.toArray⟩:ByteArray).toList.isEmpty=decide (s=[]):=by
 rw[ByteArray.toList_eq,eR];cases s<;>simp
theorem fy(x:Tp.Sc)(v:x.s.length<=1000)(w:World)(o:Glob w):Calls π 20 #[scV x] w λe w'=>e=ρ (β (x8 x))/\Below w.heap.size w w':=by
 obtain⟨k,n,s⟩:=x;simp only at v;unfold scV xR x8;obtain⟨a,f⟩:∃a:ByteArray,(⟨s.toArray⟩:ByteArray)=a:=⟨_,rfl⟩;obtain rfl:s=a.data.toList:=by rw[<-f]
 obtain⟨b,c⟩:∃b,decide (a.data.toList=[])=b:=⟨_,rfl⟩;have t:(a.toList==[])=b:=by rw[<-c];exact pZ _
 have A:a.toList.isEmpty=b:=by rw[<-c];exact lN _
 have E:(a.toList=[])=(b=true):=by
  rw[<-c];simp[ByteArray.toList_eq]
 have r:eqL k n a 0 0 ⟨#[]⟩=(decide (k=0)&&(decide (n=0)&&b)):=by
  unfold eqL;rw[show (a.toList==(⟨#[]⟩:ByteArray).toList)=b by rw[show (⟨#[]⟩:ByteArray).toList=[]by simp[ByteArray.toList_eq]];exact t];rw[Bool.eq_iff_iff];simp
 have g:=λW (y:Glob W)=>bt a (by rw[<-ap];omega) W y;simp only[c];generalize Ln.right a.data.toList=D at g ⊢;rw[f];have d:=(ζ w.heap.size w).alloc (η _) (J #[V I k,V I n,U a] 30);have q:=o.step d;have u:=zD (g _ q);clear g q o f c;by_cases j:k=0
 ·subst j
  go_enter func20,ntmps20
  go_wp2_with fail
  all_goals go_ret
  all_goals refine⟨?_,(ζ _ _).alloc (η _) _⟩
  all_goals simp[r]
 by_cases l:k=1
 ·subst l
  go_enter func20,ntmps20
  go_wp2_with fail
  all_goals go_ret
  all_goals refine⟨?_,(ζ _ _).alloc (η _) _⟩
  all_goals simp_all
  all_goals (try (rw[Bool.eq_iff_iff];simp))
  all_goals (try omega)
 by_cases i:k=2
 ·subst i
  go_enter func20,ntmps20
  go_wp2_with fail
  all_goals go_ret
  all_goals refine⟨?_,(ζ _ _).alloc (η _) _⟩
  all_goals simp_all
  all_goals (try (rw[Bool.eq_iff_iff];simp))
  all_goals (try omega)
 by_cases m:k=3
 ·subst m
  by_cases p:n=0
  ·subst p
   go_enter func20,ntmps20
   go_wp2_with fail
   refine u.out.mono ?_;rintro e C ⟨rfl,z⟩
   go_wp2_with fail
   go_ret
   exact⟨by simp,d.trans (z.mono d.size)⟩
  ·go_enter func20,ntmps20
   go_wp2_with fail
   go_ret
   exact⟨by simp[p],d⟩
 ·go_enter func20,ntmps20
  go_wp2_with fail
  go_ret
  exact⟨by simp[j,l,i,m],d⟩
theorem iz:∀(a n:Nat),n < 10 ^ a->1<=a->Tp.digits a n=Lib.decDigits n
 |0,n,_,h=>by omega
 |a+1,n,h,_=>by
  rw[Tp.digits,Lib.decDigits];by_cases b:n < 10
  ·rw[if_pos b,dif_pos b]
  ·rw[if_neg b,dif_neg b]
   have c:1<=a:=by
    rcases Nat.eq_zero_or_pos a with rfl|d
    ·simp at h;omega
    ·exact d
   rw[iz a (n / 10) (by rw[Nat.pow_succ]at h;omega) c]
theorem vA(n:Int)(b:-9223372036854775808<=n)(a:n<=9223372036854775807):Lib.itoa n=Tp.itoa n:=by
 unfold Lib.itoa Tp.itoa;rw[iz 20 n.natAbs (by omega) (by omega)];split
 ·rfl
 ·rw[show n.toNat=n.natAbs by omega]
theorem dP(n:Int)(b:-9223372036854775808<=n)(a:n<=9223372036854775807)(w:World)(d:Glob w):Calls π 40 #[V I n] w λe w'=>e=ρ (xR (Tp.itoa n))/\Below w.heap.size w w':=by
 refine(strconv_Itoa n b a w d.2.2.2.2).mono ?_;rintro e w' ⟨rfl,k,c,rfl⟩;exact⟨by rw[vA n b a];rfl,Lib.below_grow _ w (η _) k c⟩
theorem tJ(x:Tp.Sc)(w:World):Calls π 21 #[scV x] w λe w'=>e=ρ (xR [110,117,108,108])/\Below w.heap.size w w':=by
 unfold scV
 go_enter func21,ntmps21
 go_wp2
 go_ret
 exact⟨rfl,(ζ _ _).alloc (η _) _⟩
theorem pM(x:Tp.Sc)(w:World):Calls π 22 #[scV x] w λe w'=>e=ρ (xR (if x.n=1 then [116,114,117,101]else [102,97,108,115,101]))/\Below w.heap.size w w':=by
 unfold scV;obtain⟨k,n,s⟩:=x;have b:∀a c,Calls π 39 #[β a] c λe w'=>e=ρ (U ⟨(Lib.formatBool a).toArray⟩)/\w'=c:=strconv_FormatBool;by_cases d:n=1
 ·subst d
  go_enter func22,ntmps22
  go_wp2_with fail
  refine(b _ _).mono ?_;rintro e f ⟨rfl,rfl⟩
  go_wp2_with fail
  go_ret
  exact⟨rfl,(ζ _ _).alloc (η _) _⟩
 ·go_enter func22,ntmps22
  go_wp2_with fail
  refine(b _ _).mono ?_;rintro e f ⟨rfl,rfl⟩
  go_wp2_with fail
  go_ret
  exact⟨by rw[show (n==1)=false by simpa using d];rfl,(ζ _ _).alloc (η _) _⟩
theorem oP(x:Tp.Sc)(c:-9223372036854775808<=x.n)(b:x.n<=9223372036854775807)(w:World)(f:Glob w):Calls π 23 #[scV x] w λe w'=>e=ρ (xR (Tp.itoa x.n))/\Below w.heap.size w w':=by
 unfold scV;obtain⟨k,n,s⟩:=x;have a:=(ζ w.heap.size w).alloc (η _) (J #[V I k,V I n,xR s] 60);have d:=dP n c b _ (f.step a);generalize xR (Tp.itoa n)=j at d ⊢;generalize xR s=T at *;clear f c b
 go_enter func23,ntmps23
 go_wp2_with fail
 refine d.mono ?_;rintro e i ⟨rfl,g⟩
 go_wp2_with fail
 go_ret
 exact⟨rfl,a.trans (g.mono a.size)⟩
theorem pW(x:Tp.Sc)(d:x.s.length<=1000)(c:Ln.right x.s=true)(w:World)(f:Glob w):Calls π 24 #[scV x] w λe w'=>e=ρ (xR (Tp.quote x.s))/\Below w.heap.size w w':=by
 unfold scV;obtain⟨k,n,s⟩:=x;have a:=(ζ w.heap.size w).alloc (η _) (J #[V I k,V I n,xR s] 60);have b:=j3 ⟨s.toArray⟩ d c _ (f.step a);rw[show (U ⟨s.toArray⟩:Value)=xR s from rfl,show (U ⟨(Tp.quote (⟨s.toArray⟩:ByteArray).data.toList).toArray⟩:Value)=xR (Tp.quote s)from rfl]at b;generalize xR (Tp.quote s)=j at b ⊢;generalize xR s=T at *;clear f d c
 go_enter func24,ntmps24
 go_wp2_with fail
 refine b.mono ?_;rintro e i ⟨rfl,g⟩
 go_wp2_with fail
 go_ret
 exact⟨rfl,a.trans (g.mono a.size)⟩
def byV(a:UInt8):Value:=V .u8 (a.toNat:Int)
theorem pj(b:UInt8)(c:List UInt8)(u:Option Addr)(g o n cap:Nat)(t:c.length=n)(L:n<=100000)(w:World)(r:RA w u g o (c.map byV)):
 Calls π 259 #[Y u n cap,byV b] w λe w'=>(∃k:Int,e=ρ (V I k)/\(decide (0<=k)=c.contains b))/\w'=w:=by
 unfold byV at *;obtain⟨d,q⟩:∃d,c.contains b=d:=⟨_,rfl⟩;rw[q];obtain⟨A,C,s⟩:=zx3 q r t;clear q r t
 go_enter func259,ntmps259
 go_wp2_with fail
 go_loopw [4,5,8] (λ_ _ a wr=>∃i:Nat,a=V I (i:Int)/\wr=w/\i<=n/\(c.drop i).contains b=d) (λ_ _ a _=>n - (Lib.intOf a).toNat)
 case atStart=>exact⟨0,rfl,rfl,z_ _,by rw[List.drop_zero];exact A.out⟩
 case round=>
  obtain⟨i,rfl,rfl,H,j⟩:=hrel;by_cases D:i < n
  ·have y:(i:Int) < (n:Int):=by omega
   obtain⟨f,p⟩:=fk c i (by rw[s.out];exact D);have l:=kw (λb:UInt8=>Value.int .u8 (b.toNat:Int)) c i f p;obtain⟨E,_,v⟩:=C.out (by intro e;rw[e]at l;simp at l);subst E;have G:=v i _ l;rw[aE c i f p,List.contains_cons]at j;have F:IntKind.i64.wrap ((i:Int)+1)=(i:Int)+1:=zU _ (by omega);clear p v l;by_cases z:(b.toNat:Int)=(f.toNat:Int)
   ·have m:b=f:=UInt8.toNat_inj.1 (by omega)
    obtain rfl:d=true:=by rw[<-j,m];simp
    go_wp2_with fail
    go_ret
    exact⟨⟨_,rfl,by simp⟩,rfl⟩
   ·have m:(b==f)=false:=by rw[beq_eq_false_iff_ne];intro e;exact z (by rw[e])
    rw[m,Bool.false_or]at j
    go_wp2_with fail
    go_roundw
    case rel=>exact⟨i+1,by simp,trivial,by omega,j⟩
    case measure=>simp[Lib.intOf];omega
  ·have y:¬(i:Int) < (n:Int):=by omega
   have x:d=false:=by
    rw[<-j,List.drop_eq_nil_of_le (by rw[s.out];omega)];rfl
   subst x
   go_wp2_with fail
   go_ret
   exact⟨⟨_,rfl,by decide⟩,rfl⟩
theorem jr(b:UInt8)(a:List UInt8)(c:Option Addr)(g o n cap:Nat)(j:a.length=n)(i:n<=100000)(w:World)(f:RA w c g o (a.map byV)):
 Calls π 232 #[Y c n cap,byV b] w λe w'=>e=ρ (β (a.contains b))/\w'=w:=by
 have l:=pj b a c g o n cap j i w f;unfold byV at *;generalize a.contains b=p at *
 go_enter func232,ntmps232
 go_wp2_with fail
 refine l.mono ?_;rintro e m ⟨⟨k,rfl,d⟩,rfl⟩
 go_wp2_with fail
 go_ret
 exact⟨by rw[<-d];rfl,rfl⟩
def yC(s:ByteArray)(i:Nat)(a:List UInt8):Bool:=match s.data.toList[i]? with|some c=>a.contains c|none=>false
def yb(w:World)(a:Nat)(s:ByteArray)(p d:Nat):Prop:=w.heap[a]? =W (J #[U s,V I (p:Int),V I (d:Int)] 300 (0,0))
theorem cO(r:Nat)(s:ByteArray)(p d i:Nat)(l:Int)(j:(p:Int)+l=(i:Int))(A:i<=1000000)(F:s.size<=1000000)(a:List UInt8)(g n:Nat)(y:a.length=n)(G:n<=100)(w:World)(c:yb w r s p d)(f:RA w (W ⟨g,0,O⟩) g 0 (a.map byV)):
 Calls π 196 #[Z (W ⟨r,0,O⟩),V I l,Y (W ⟨g,0,O⟩) n n] w λe w'=>e=ρ (β (yC s i a))/\w'=w:=by
 have D:=zF c 0 rfl;have E:=zF c 1 rfl;have v:IntKind.i64.wrap ((p:Int)+l)=(i:Int):=by rw[j];exact zU _ (by omega)
 have m:=λk=>jr k a _ g 0 n n y (by omega) w f;unfold yC byV at *;by_cases b:i < s.size
 ·have q:(i:Int) < (s.size:Int):=by omega
  have t:s.data.toList[i]? =W (s[i]'b):=by
   rw[zE (by rw[ap];exact b)];rfl
  rw[t];simp only;have o:=m (s[i]'b);have u:=λx=>run_index_string (P:=π) x 9 s I (i:Int) underlying9;simp only[show (0:Int)<=(i:Int)/\(i:Int) < (s.size:Int)from ⟨by omega,q⟩,dif_pos,Int.toNat_natCast,and_self]at u;have z:=zD o;clear m t c f o j;generalize s[i]'b=k at *;generalize a.contains k=C at *
  go_enter func196,ntmps196
  go_wp2_with fail
  refine z.out.mono ?_;rintro e v ⟨rfl,rfl⟩
  go_wp2_with fail
  go_ret
  exact⟨rfl,rfl⟩
 ·have q:¬(i:Int) < (s.size:Int):=by omega
  rw[List.getElem?_eq_none (by rw[ap];omega)];clear m c f j
  go_enter func196,ntmps196
  go_wp2_with fail
  go_ret
  exact⟨rfl,rfl⟩
theorem wP(s:ByteArray)(i:Nat):Tp.isB (s.data.toList.drop i)=(decide (s.size<=i)||yC s i [32]):=by
 unfold yC;by_cases b:i < s.size
 ·have a:i < s.data.toList.length:=by rw[ap];exact b
  rw[zE a,zW a];rw[Bool.eq_iff_iff];simp[Tp.isB,show ¬s.size<=i by omega,<-UInt8.toNat_inj]
 ·rw[List.drop_eq_nil_of_le (by rw[ap];omega)]
  simp[Tp.isB,show s.size<=i by omega]
theorem uJ(x a:Int)(b:World):(binOp .geq 3 (V I x) (V I a)).run π b=.ok (β (decide (a<=x))) b:=by
 simp[go_sem]
theorem eC(w:World)(a:List UInt8)(T:TypeId):RA (w.alloc (J (a.map byV).toArray T)) (W ⟨w.heap.size,0,O⟩) w.heap.size 0 (a.map byV):=
 λ_=>⟨rfl,by simp,λi v b=>by rw[Nat.zero_add,ae (af _ _) i];simpa using b⟩
theorem dk(b:Nat)(s:ByteArray)(p d i:Nat)(f:Int)(c:(p:Int)+f=(i:Int))(n:i<=1000000)(u:s.size<=1000000)(w:World)(a:yb w b s p d):
 Calls π 287 #[Z (W ⟨b,0,O⟩),V I f] w λe w'=>e=ρ (β (Tp.isB (s.data.toList.drop i)))/\Below w.heap.size w w':=by
 have q:=zF a 0 rfl;have t:=zF a 1 rfl;have v:IntKind.i64.wrap ((p:Int)+f)=(i:Int):=by rw[c];exact zU _ (by omega)
 rw[wP];by_cases l:s.size<=i
 ·have o:¬(i:Int) < (s.size:Int):=by omega
  have j:(s.size:Int)<=(i:Int):=by omega
  rw[decide_eq_true l,Bool.true_or];have g:=λk=>uJ (i:Int) (s.size:Int) k;rw[decide_eq_true j]at g;clear a c
  go_enter func287,ntmps287
  go_wp2_with fail
  go_quiet (fail)
  go_wp2_with fail
  go_ret
  exact⟨rfl,Far.to_below ((ξ xO w).drewN _) (η _) (λ_ _ e=>e)⟩
 ·have o:(i:Int) < (s.size:Int):=by omega
  have j:¬(s.size:Int)<=(i:Int):=by omega
  rw[decide_eq_false l,Bool.false_or];have g:=λk=>uJ (i:Int) (s.size:Int) k;rw[decide_eq_false j]at g;have z:=lt_of_heap a;have m:=cO b s p d i f c n u [32] w.heap.size 1 rfl (by omega) (w.alloc (J #[V .u8 32] 5)).drew (aa _ a) (eC w [32] 5);generalize yC s i [32]=y at *;have r:=zD m;clear m a c
  go_enter func287,ntmps287
  go_wp2_with fail
  go_region_held3 (λw'=>w'.cell? ⟨b,0,O⟩=W (U s)/\w'.cell? ⟨b,1,O⟩=W (V I (p:Int))) (first|(with_reducible exact⟨q,t⟩)|go_keep) (first|(go_at_call 196;refine r.out.mono ?_;rintro e x ⟨rfl,rfl⟩))
  go_wp2_with fail
  go_ret
  exact⟨rfl,((ζ _ _).alloc (η _) _).drew⟩
theorem dI(w:World)(a:List UInt8)(T:TypeId)(g:Nat)(b:g=w.heap.size):RA (w.alloc (J (a.map byV).toArray T)) (W ⟨g,0,O⟩) g 0 (a.map byV):=by subst b;exact eC w a T
theorem qB(w:World)(a:List UInt8)(T:TypeId)(c:Nat × Nat):RA (w.alloc (J (a.map byV).toArray T c)) (W ⟨w.heap.size,0,O⟩) w.heap.size 0 (a.map byV):=
 λ_=>⟨rfl,by simp,λi v b=>by rw[Nat.zero_add,ae (af _ _) i];simpa using b⟩
def y7(s:ByteArray)(p:Nat):Bool:=yC s p [35]&&(decide (p=0)||yC s (p - 1) [32])
theorem im(b:Nat)(s:ByteArray)(p d:Nat)(n:p<=1000000)(l:s.size<=1000000)(w:World)(a:yb w b s p d):
 Calls π 197 #[Z (W ⟨b,0,O⟩)] w λe w'=>e=ρ (β (y7 s p))/\Below w.heap.size w w':=by
 have x:=lt_of_heap a;have c:=cO b s p d p 0 (by omega) n l [35] w.heap.size 1 rfl (by omega) (w.alloc (J #[V .u8 35] 5)) (aa _ a) (eC w [35] 5);have t:∀o:Obj,(w.alloc o).cell? ⟨b,1,O⟩=W (V I (p:Int)):=λo=>ae (aa o a) 1;unfold y7;obtain⟨g,j⟩:∃g,yC s p [35]=g:=⟨_,rfl⟩;rw[j]at c ⊢;clear j;cases g with
 |false=>
  clear a
  go_enter func197,ntmps197
  go_wp2_with fail
  refine c.mono ?_;rintro e f ⟨rfl,rfl⟩
  go_wp2_with fail
  go_ret
  exact⟨rfl,(ζ _ _).alloc (η _) _⟩
 |true=>
  by_cases k:p=0
  ·subst k
   clear a
   go_enter func197,ntmps197
   go_wp2_with fail
   refine c.mono ?_;rintro e f ⟨rfl,rfl⟩
   go_wp2_with fail
   go_ret
   exact⟨rfl,(ζ _ _).alloc (η _) _⟩
  ·have i:=cO b s p d (p - 1) (-1) (by omega) (by omega) l [32] (w.heap.size+1) 1 rfl (by omega) ((w.alloc (J #[V .u8 35] 5)).alloc (J #[V .u8 32] 5)) (aa _ (aa _ a)) (dI (w.alloc (J #[V .u8 35] 5)) [32] 5 _ (by simp))
   have u:((p:Int)==0)=false:=by rw[beq_eq_false_iff_ne];omega
   have v:¬(p:Int)=0:=by omega
   rw[decide_eq_false k,Bool.false_or,Bool.true_and];generalize yC s (p - 1) [32]=r at *;have m:Below w.heap.size w ((w.alloc (J #[V .u8 35] 5)).alloc (J #[V .u8 32] 5)):=((ζ _ _).alloc (η _) _).alloc (by simp) _;have q:=zD i;clear a i
   go_enter func197,ntmps197
   go_wp2_with fail
   refine c.mono ?_;rintro e f ⟨rfl,rfl⟩
   go_wp2_with fail
   refine q.out.mono ?_;rintro e f ⟨rfl,rfl⟩
   go_wp2_with fail
   go_ret
   exact⟨rfl,m⟩
theorem yb.below{w w':World}{a:Nat}{s:ByteArray}{p d B:Nat}(b:yb w a s p d)(e:Below B w w')(c:a < B):yb w' a s p d:=(e.block a c).trans b
theorem sE(b:Nat)(s:ByteArray)(i:Nat):Tp.closed b (s.data.toList.drop i)=(Tp.isB (s.data.toList.drop i)||(decide (0 < b)&&yC s i [44,91,93,123,125])):=by
 unfold Tp.closed yC;congr 2
 by_cases c:i < s.size
 ·have a:i < s.data.toList.length:=by rw[ap];exact c
  rw[zE a,zW a];simp only[Tp.flowC];rw[Bool.eq_iff_iff];simp[<-UInt8.toNat_inj,or_assoc]
 ·rw[List.drop_eq_nil_of_le (by rw[ap];omega),List.getElem?_eq_none (by rw[ap];omega)]
theorem bT(g:Nat)(s:ByteArray)(p d i:Nat)(k:Int)(v:(p:Int)+k=(i:Int))(o:i<=1000000)(u:s.size<=1000000)(w:World)(j:yb w g s p d):
 Calls π 285 #[Z (W ⟨g,0,O⟩),V I k] w λe w'=>e=ρ (β (Tp.closed d (s.data.toList.drop i)))/\Below w.heap.size w w':=by
 have f:=dk g s p d i k v o u w j;have x:=lt_of_heap j;rw[sE];obtain⟨l,r⟩:∃l,Tp.isB (s.data.toList.drop i)=l:=⟨_,rfl⟩;rw[r]at f ⊢;clear r;have t:=zD j;clear j;cases l with
 |true=>
  go_enter func285,ntmps285
  go_wp2_with fail
  refine f.mono ?_;rintro e b ⟨rfl,a⟩
  go_wp2_with fail
  go_ret
  exact⟨rfl,a⟩
 |false=>
  rw[Bool.false_or];by_cases y:0 < d
  ·have F:(0:Int) < (d:Int):=by omega
   rw[decide_eq_true y,Bool.true_and];obtain⟨q,n⟩:∃q,yC s i [44,91,93,123,125]=q:=⟨_,rfl⟩;rw[n];have C:=zD n;clear n
   go_enter func285,ntmps285
   go_wp2_with fail
   refine f.mono ?_;rintro e b ⟨rfl,a⟩;have c:=t.out.below a x;have z:=zF c 2 rfl;have m:=cO g s p d i k v o u [44,91,93,123,125] b.heap.size 5 rfl (by omega) (b.alloc (J #[V .u8 44,V .u8 91,V .u8 93,V .u8 123,V .u8 125] 5 (5,6))) (aa _ c) (qB b [44,91,93,123,125] 5 (5,6));have E:=Lib.run_convert_bytes_const (P:=π) b 36 5 #[V .u8 44,V .u8 91,V .u8 93,V .u8 123,V .u8 125] 5 5 underlying36 underlying5;rw[show (#[V .u8 44,V .u8 91,V .u8 93,V .u8 123,V .u8 125]:Array Value).size=5 from rfl]at E;rw[C.out]at m;have D:=zD m;have A:=a.alloc a.size (J #[V .u8 44,V .u8 91,V .u8 93,V .u8 123,V .u8 125] 5 (5,6));clear c m
   go_wp2_with fail
   refine D.out.mono ?_;rintro e b ⟨rfl,rfl⟩
   go_wp2_with fail
   go_ret
   exact⟨rfl,A⟩
  ·obtain rfl:d=0:=by omega
   go_enter func285,ntmps285
   go_wp2_with fail
   refine f.mono ?_;rintro e b ⟨rfl,a⟩;have c:=t.out.below a x;have z:=zF c 2 rfl;clear c
   go_wp2_with fail
   go_ret
   exact⟨rfl,a⟩
def tkV(t:Tp.Tk):Value:=γ #[V I t.k,xR t.s,V I (t.a:Int)]
def yh(w:World)(a:Nat)(s:ByteArray)(p d:Nat)(t:Tp.Tk)(e:Ending)(w':World):Prop:=e=ρ (.tuple #[tkV t,.nilIface])/\yb w' a s p d/\Far (·=a) w w'
theorem uT:(prog.info? 305).map (·.size)=W 3:=by kernel_rfl
theorem nc{e:Func}{a f:Tmp}(i:e.results=#[.cell a 305,.tmp f])(c:World)(q:Nat)(x d z:Value)(b:Array Value)(k:c.heap[q]? =W (J #[x,d,z] 305 (0,0)))(l:b.getD a undef=Z (W ⟨q,0,O⟩)):
 (results e b).run π c=.ok (.tuple #[γ #[x,d,z],b.getD f undef]) c:=by
 have g:b[a]?.getD undef=Z (W ⟨q,0,O⟩):=by simpa using l
 have j:=run_loadVar_row (P:=π) c q 305 305 _ (0,0) _ k underlying305 rfl uT;simp[results,i,asAddr,g,j,Sem.run_bind,Result.andThen]
theorem cB(k:Int)(a:Nat)(s:ByteArray)(p d:Nat)(n:p<=1000000)(w:World)(c:yb w a s p d):
 Calls π 288 #[Z (W ⟨a,0,O⟩),V I k] w (yh w a s (p+1) d ⟨k,[],p⟩):=by
 have i:=lt_of_heap c;have m:∀o b:Obj,((w.alloc o).alloc b).cell? ⟨a,1,O⟩=W (V I (p:Int)):=λo b=>ae (aa b (aa o c)) 1;have l:∀o b:Obj,((w.alloc o).alloc b).frozen? ⟨a,1,O⟩=false:=λo b=>ag (aa b (aa o c)) 1;have r:∀o:Obj,(w.alloc o).cell? ⟨a,1,O⟩=W (V I (p:Int)):=λo=>ae (aa o c) 1;have g:IntKind.i64.wrap ((p:Int)+1)=(p:Int)+1:=zU _ (by omega);have j:a≠w.heap.size:=by omega
 have q:a≠w.heap.size+1:=by omega
 have e:=zD c;clear c
 go_enter func288,ntmps288
 go_wp2_with fail
 have f:(w.setCell ⟨a,1,O⟩ (V I ((p:Int)+1))).heap.size=w.heap.size:=by simp[World.setCell]
 exact bodyPost_ret (nc results288 _ w.heap.size _ _ _ _ (aa _ (ah _ _ _ f.symm)) rfl) rfl ⟨rfl,aa _ (aa _ (ai e.out 1 _)),(((ξ (·=a) w).setCell (p:=⟨a,1,O⟩) (λ_=>rfl) _).alloc _).alloc _⟩
section
theorem ry(x a:ByteArray)(w:World):(Instr.index 285 (γ #[U x,U a]) (V I 0)).run π w=.ok (U x) w:=by kernel_rfl
theorem rx(x a:ByteArray)(w:World):(Instr.index 285 (γ #[U x,U a]) (V I 1)).run π w=.ok (U a) w:=by kernel_rfl
attribute [local go_sem] ry rx
theorem vu(s:ByteArray)(w:World)(t1:ByteArray)(c:∀w,Calls π 141 #[U s,U ⟨#[45,45,45]⟩] w λe w'=>e=ρ (.tuple #[U t1,β false])/\w'=w)(t2:ByteArray)(b:∀w,Calls π 141 #[U s,U ⟨#[46,46,46]⟩] w λe w'=>e=ρ (.tuple #[U t2,β false])/\w'=w):Calls π 102 #[γ #[U s]] w λe w'=>e=ρ (β false)/\Below w.heap.size w w':=by
 go_enter func102,ntmps102
 go_wp2_with fail
 refine wp_loop_rounds 3 ?_;rw[rounds_succ]
 go_wp2_with fail
 refine(c _).mono ?_;rintro e a ⟨rfl,rfl⟩
 go_wp2_with fail
 rw[rounds_succ]
 go_wp2_with fail
 refine(b _).mono ?_;rintro e a ⟨rfl,rfl⟩
 go_wp2_with fail
 rw[rounds_succ]
 go_wp2_with fail
 go_ret
 exact⟨rfl,(ζ _ _).alloc (η _) _⟩
theorem vw(s:ByteArray)(w:World)(t1:ByteArray)(c:∀w,Calls π 141 #[U s,U ⟨#[45,45,45]⟩] w λe w'=>e=ρ (.tuple #[U t1,β false])/\w'=w)(t2:ByteArray)(b:∀w,Calls π 141 #[U s,U ⟨#[46,46,46]⟩] w λe w'=>e=ρ (.tuple #[U t2,β true])/\w'=w)(d:t2.toList.isEmpty=true):Calls π 102 #[γ #[U s]] w λe w'=>e=ρ (β true)/\Below w.heap.size w w':=by
 go_enter func102,ntmps102
 go_wp2_with fail
 refine wp_loop_rounds 3 ?_;rw[rounds_succ]
 go_wp2_with fail
 refine(c _).mono ?_;rintro e a ⟨rfl,rfl⟩
 go_wp2_with fail
 rw[rounds_succ]
 go_wp2_with fail
 refine(b _).mono ?_;rintro e a ⟨rfl,rfl⟩
 go_wp2_with fail
 go_ret
 exact⟨rfl,(ζ _ _).alloc (η _) _⟩
theorem vt(s:ByteArray)(w:World)(t1:ByteArray)(c:∀w,Calls π 141 #[U s,U ⟨#[45,45,45]⟩] w λe w'=>e=ρ (.tuple #[U t1,β false])/\w'=w)(t2:ByteArray)(b:∀w,Calls π 141 #[U s,U ⟨#[46,46,46]⟩] w λe w'=>e=ρ (.tuple #[U t2,β true])/\w'=w)(g:t2.toList.isEmpty=false)(d:0 < t2.size)(f:(((t2[0]'d).toNat:Int)==32)=false):Calls π 102 #[γ #[U s]] w λe w'=>e=ρ (β false)/\Below w.heap.size w w':=by
 go_enter func102,ntmps102
 go_wp2_with fail
 refine wp_loop_rounds 3 ?_;rw[rounds_succ]
 go_wp2_with fail
 refine(c _).mono ?_;rintro e a ⟨rfl,rfl⟩
 go_wp2_with fail
 rw[rounds_succ]
 go_wp2_with fail
 refine(b _).mono ?_;rintro e a ⟨rfl,rfl⟩
 go_wp2_with fail
 rw[rounds_succ]
 go_wp2_with fail
 go_ret
 exact⟨rfl,(ζ _ _).alloc (η _) _⟩
theorem vx(s:ByteArray)(w:World)(t1:ByteArray)(c:∀w,Calls π 141 #[U s,U ⟨#[45,45,45]⟩] w λe w'=>e=ρ (.tuple #[U t1,β false])/\w'=w)(t2:ByteArray)(b:∀w,Calls π 141 #[U s,U ⟨#[46,46,46]⟩] w λe w'=>e=ρ (.tuple #[U t2,β true])/\w'=w)(g:t2.toList.isEmpty=false)(d:0 < t2.size)(f:(((t2[0]'d).toNat:Int)==32)=true):Calls π 102 #[γ #[U s]] w λe w'=>e=ρ (β true)/\Below w.heap.size w w':=by
 go_enter func102,ntmps102
 go_wp2_with fail
 refine wp_loop_rounds 3 ?_;rw[rounds_succ]
 go_wp2_with fail
 refine(c _).mono ?_;rintro e a ⟨rfl,rfl⟩
 go_wp2_with fail
 rw[rounds_succ]
 go_wp2_with fail
 refine(b _).mono ?_;rintro e a ⟨rfl,rfl⟩
 go_wp2_with fail
 go_ret
 exact⟨rfl,(ζ _ _).alloc (η _) _⟩
theorem wE(s:ByteArray)(w:World)(t1:ByteArray)(a:∀w,Calls π 141 #[U s,U ⟨#[45,45,45]⟩] w λe w'=>e=ρ (.tuple #[U t1,β true])/\w'=w)(c:t1.toList.isEmpty=true):Calls π 102 #[γ #[U s]] w λe w'=>e=ρ (β true)/\Below w.heap.size w w':=by
 go_enter func102,ntmps102
 go_wp2_with fail
 refine wp_loop_rounds 3 ?_;rw[rounds_succ]
 go_wp2_with fail
 refine(a _).mono ?_;rintro e b ⟨rfl,rfl⟩
 go_wp2_with fail
 go_ret
 exact⟨rfl,(ζ _ _).alloc (η _) _⟩
theorem vp(s:ByteArray)(w:World)(t1:ByteArray)(d:∀w,Calls π 141 #[U s,U ⟨#[45,45,45]⟩] w λe w'=>e=ρ (.tuple #[U t1,β true])/\w'=w)(g:t1.toList.isEmpty=false)(b:0 < t1.size)(f:(((t1[0]'b).toNat:Int)==32)=false)(t2:ByteArray)(c:∀w,Calls π 141 #[U s,U ⟨#[46,46,46]⟩] w λe w'=>e=ρ (.tuple #[U t2,β false])/\w'=w):Calls π 102 #[γ #[U s]] w λe w'=>e=ρ (β false)/\Below w.heap.size w w':=by
 go_enter func102,ntmps102
 go_wp2_with fail
 refine wp_loop_rounds 3 ?_;rw[rounds_succ]
 go_wp2_with fail
 refine(d _).mono ?_;rintro e a ⟨rfl,rfl⟩
 go_wp2_with fail
 rw[rounds_succ]
 go_wp2_with fail
 refine(c _).mono ?_;rintro e a ⟨rfl,rfl⟩
 go_wp2_with fail
 rw[rounds_succ]
 go_wp2_with fail
 go_ret
 exact⟨rfl,(ζ _ _).alloc (η _) _⟩
theorem vq(s:ByteArray)(w:World)(t1:ByteArray)(d:∀w,Calls π 141 #[U s,U ⟨#[45,45,45]⟩] w λe w'=>e=ρ (.tuple #[U t1,β true])/\w'=w)(i:t1.toList.isEmpty=false)(b:0 < t1.size)(g:(((t1[0]'b).toNat:Int)==32)=false)(t2:ByteArray)(c:∀w,Calls π 141 #[U s,U ⟨#[46,46,46]⟩] w λe w'=>e=ρ (.tuple #[U t2,β true])/\w'=w)(f:t2.toList.isEmpty=true):Calls π 102 #[γ #[U s]] w λe w'=>e=ρ (β true)/\Below w.heap.size w w':=by
 go_enter func102,ntmps102
 go_wp2_with fail
 refine wp_loop_rounds 3 ?_;rw[rounds_succ]
 go_wp2_with fail
 refine(d _).mono ?_;rintro e a ⟨rfl,rfl⟩
 go_wp2_with fail
 rw[rounds_succ]
 go_wp2_with fail
 refine(c _).mono ?_;rintro e a ⟨rfl,rfl⟩
 go_wp2_with fail
 go_ret
 exact⟨rfl,(ζ _ _).alloc (η _) _⟩
theorem vo(s:ByteArray)(w:World)(t1:ByteArray)(d:∀w,Calls π 141 #[U s,U ⟨#[45,45,45]⟩] w λe w'=>e=ρ (.tuple #[U t1,β true])/\w'=w)(k:t1.toList.isEmpty=false)(b:0 < t1.size)(j:(((t1[0]'b).toNat:Int)==32)=false)(t2:ByteArray)(c:∀w,Calls π 141 #[U s,U ⟨#[46,46,46]⟩] w λe w'=>e=ρ (.tuple #[U t2,β true])/\w'=w)(i:t2.toList.isEmpty=false)(f:0 < t2.size)(g:(((t2[0]'f).toNat:Int)==32)=false):Calls π 102 #[γ #[U s]] w λe w'=>e=ρ (β false)/\Below w.heap.size w w':=by
 go_enter func102,ntmps102
 go_wp2_with fail
 refine wp_loop_rounds 3 ?_;rw[rounds_succ]
 go_wp2_with fail
 refine(d _).mono ?_;rintro e a ⟨rfl,rfl⟩
 go_wp2_with fail
 rw[rounds_succ]
 go_wp2_with fail
 refine(c _).mono ?_;rintro e a ⟨rfl,rfl⟩
 go_wp2_with fail
 rw[rounds_succ]
 go_wp2_with fail
 go_ret
 exact⟨rfl,(ζ _ _).alloc (η _) _⟩
theorem vr(s:ByteArray)(w:World)(t1:ByteArray)(d:∀w,Calls π 141 #[U s,U ⟨#[45,45,45]⟩] w λe w'=>e=ρ (.tuple #[U t1,β true])/\w'=w)(k:t1.toList.isEmpty=false)(b:0 < t1.size)(j:(((t1[0]'b).toNat:Int)==32)=false)(t2:ByteArray)(c:∀w,Calls π 141 #[U s,U ⟨#[46,46,46]⟩] w λe w'=>e=ρ (.tuple #[U t2,β true])/\w'=w)(i:t2.toList.isEmpty=false)(f:0 < t2.size)(g:(((t2[0]'f).toNat:Int)==32)=true):Calls π 102 #[γ #[U s]] w λe w'=>e=ρ (β true)/\Below w.heap.size w w':=by
 go_enter func102,ntmps102
 go_wp2_with fail
 refine wp_loop_rounds 3 ?_;rw[rounds_succ]
 go_wp2_with fail
 refine(d _).mono ?_;rintro e a ⟨rfl,rfl⟩
 go_wp2_with fail
 rw[rounds_succ]
 go_wp2_with fail
 refine(c _).mono ?_;rintro e a ⟨rfl,rfl⟩
 go_wp2_with fail
 go_ret
 exact⟨rfl,(ζ _ _).alloc (η _) _⟩
theorem wF(s:ByteArray)(w:World)(t1:ByteArray)(b:∀w,Calls π 141 #[U s,U ⟨#[45,45,45]⟩] w λe w'=>e=ρ (.tuple #[U t1,β true])/\w'=w)(f:t1.toList.isEmpty=false)(a:0 < t1.size)(d:(((t1[0]'a).toNat:Int)==32)=true):Calls π 102 #[γ #[U s]] w λe w'=>e=ρ (β true)/\Below w.heap.size w w':=by
 go_enter func102,ntmps102
 go_wp2_with fail
 refine wp_loop_rounds 3 ?_;rw[rounds_succ]
 go_wp2_with fail
 refine(b _).mono ?_;rintro e c ⟨rfl,rfl⟩
 go_wp2_with fail
 go_ret
 exact⟨rfl,(ζ _ _).alloc (η _) _⟩
theorem gh(t:ByteArray)(p:Bool):p=false\/(p=true/\t.toList.isEmpty=true)\/(p=true/\t.toList.isEmpty=false/\∃a:0 < t.size,(((t[0]'a).toNat:Int)==32)=true)\/(p=true/\t.toList.isEmpty=false/\∃a:0 < t.size,(((t[0]'a).toNat:Int)==32)=false):=by
 cases p with
 |false=>exact .inl rfl
 |true=>
  by_cases c:0 < t.size
  ·have d:t.toList.isEmpty=false:=by
    rw[ByteArray.toList_eq];cases b:t.data.toList with
    |nil=>have:=ap t;rw[b]at this;simp at this;omega
    |cons x u=>rfl
   by_cases e:(((t[0]'c).toNat:Int)==32)=true
   ·exact .inr (.inr (.inl ⟨rfl,d,c,e⟩))
   ·exact .inr (.inr (.inr ⟨rfl,d,c,by simpa using e⟩))
  ·refine .inr (.inl ⟨rfl,?_⟩)
   rw[ByteArray.toList_eq];have:=ap t;cases b:t.data.toList with
   |nil=>rfl
   |cons x u=>rw[b]at this;simp at this;omega
theorem uD(s t:ByteArray)(p:Bool)(m:Ln.B)(n:t.data.toList=Lib.trimPrefix s.data.toList m)(l:Lib.hasPrefix s.data.toList m=p):
 (p=false->Ln.oneB m s.data.toList=false)/\(p=true->t.toList.isEmpty=true->Ln.oneB m s.data.toList=true)/\
 (∀a:0 < t.size,p=true->(((t[0]'a).toNat:Int)==32)=true->Ln.oneB m s.data.toList=true)/\
 (∀a:0 < t.size,p=true->(((t[0]'a).toNat:Int)==32)=false->Ln.oneB m s.data.toList=false):=by
 have k:∀a:0 < t.size,t.data.toList≠[]/\t.data.toList.head? =W (t[0]'a):=by
  intro a;have d:0 < t.data.toList.length:=by rw[ap];exact a
  refine⟨by intro e;rw[e]at d;simp at d,?_⟩;rw[List.head?_eq_getElem?,zE d];rfl
 unfold Ln.oneB;rw[l,<-n];refine⟨λa=>by rw[a,Bool.false_and],λa i=>?_,λb a c=>?_,λb a c=>?_⟩
 ·rw[ByteArray.toList_eq]at i
  have:t.data.toList=[]:=by simpa using i
  rw[a,this];rfl
 ·obtain⟨j,f⟩:=k b
  have g:(t[0]'b)=32:=by
   have:((t[0]'b).toNat:Int)=32:=by simpa using c
   exact UInt8.toNat_inj.1 (by show (t[0]'b).toNat=32;omega)
  rw[a,f,g];simp
 ·obtain⟨j,f⟩:=k b
  have g:(t[0]'b)≠32:=by
   intro e;rw[e]at c;exact absurd c (by decide)
  rw[a,f];simp[j,g]
theorem tQ(s:ByteArray)(w:World):Calls π 102 #[γ #[U s]] w λe w'=>e=ρ (β (Ln.markB s.data.toList))/\Below w.heap.size w w':=by
 have d:=λw=>strings_CutPrefix s ⟨#[45,45,45]⟩ w;have f:=λw=>strings_CutPrefix s ⟨#[46,46,46]⟩ w;obtain⟨t1,r⟩:∃t:ByteArray,(⟨(Lib.trimPrefix s.data.toList [45,45,45]).toArray⟩:ByteArray)=t:=⟨_,rfl⟩;obtain⟨t2,v⟩:∃t:ByteArray,(⟨(Lib.trimPrefix s.data.toList [46,46,46]).toArray⟩:ByteArray)=t:=⟨_,rfl⟩;obtain⟨q,l⟩:∃p,Lib.hasPrefix s.data.toList [45,45,45]=p:=⟨_,rfl⟩;obtain⟨k,o⟩:∃p,Lib.hasPrefix s.data.toList [46,46,46]=p:=⟨_,rfl⟩;simp only[r,l]at d;simp only[v,o]at f;obtain⟨A,C,y,z⟩:=uD s t1 q [45,45,45] (by rw[<-r]) l;obtain⟨m,u,n,x⟩:=uD s t2 k [46,46,46] (by rw[<-v]) o;rw[Ln.tP];rcases gh t1 q with rfl|⟨rfl,g⟩|⟨rfl,g,i,j⟩|⟨rfl,g,i,j⟩
 ·rw[A rfl,Bool.false_or]
  rcases gh t2 k with rfl|⟨rfl,a⟩|⟨rfl,a,c,b⟩|⟨rfl,a,c,b⟩
  ·rw[m rfl]
   exact vu s w t1 d t2 f
  ·rw[u rfl a]
   exact vw s w t1 d t2 f a
  ·rw[n c rfl b]
   exact vx s w t1 d t2 f a c b
  ·rw[x c rfl b]
   exact vt s w t1 d t2 f a c b
 ·rw[C rfl g,Bool.true_or]
  exact wE s w t1 d g
 ·rw[y i rfl j,Bool.true_or]
  exact wF s w t1 d g i j
 ·rw[z i rfl j,Bool.false_or]
  rcases gh t2 k with rfl|⟨rfl,a⟩|⟨rfl,a,c,b⟩|⟨rfl,a,c,b⟩
  ·rw[m rfl]
   exact vp s w t1 d g i j t2 f
  ·rw[u rfl a]
   exact vq s w t1 d g i j t2 f a
  ·rw[n c rfl b]
   exact vr s w t1 d g i j t2 f a c b
  ·rw[x c rfl b]
   exact vo s w t1 d g i j t2 f a c b
end
end Go.Proofs.YtbikgdhbiebhcaaGreatDoor
