/-Lemmas.-/
import Derived.Test.YtknefelegjlgnaaGreatDoorCCCm1
set_option maxRecDepth 100000
set_option maxHeartbeats 1000000
namespace Go.Proofs.YtknefelegjlgnaaGreatDoor
open Go.RowKit
abbrev Dig:=Int×Int
def ofL(l:VD):VB:=⟨l.toArray⟩
def toL(s:VB):VD:=s.data.toList
theorem dE(l:VD):toL (ofL l)=l:=rfl
theorem jd(s:VB):ofL (toL s)=s:=by cases s;simp[ofL,toL]
theorem aQ(s:VB):s.size= (toL s).length:=by cases s;rfl
theorem bU(l:VD): (ofL l).size=l.length:=rfl
/-! ### numbers -/
def ak(n:Nat):VD:=if n<128 then [UInt8.ofNat n] else UInt8.ofNat (n % 128+128)::ak (n / 128)
 termination_by n
 decreasing_by omega
theorem eH{n:Nat}(h:n<128):ak n= [UInt8.ofNat n]:=by rw[ak,if_pos h]
theorem lK{n:Nat}(h:¬n<128):ak n=UInt8.ofNat (n % 128+128)::ak (n / 128):=by rw[ak,if_neg h]
theorem En(n:Nat):0< (ak n).length:=by
 by_cases h:n<128
 . rw[eH h];simp
 . rw[lK h];simp
theorem gy:∀(k n:Nat),n<128 ^ (k+1)-> (ak n).length<=k+1
 | 0,n,h=>by rw[eH (by simpa using h)];simp
 | k+1,n,h=>by
   by_cases hs:n<128
   . rw[eH hs];simp
   . rw[lK hs,Z4]
     have:=gy k (n / 128) (by rw[Nat.div_lt_iff_lt_mul (by omega)];rw[Nat.pow_succ]at h;omega);omega
theorem lF{n:Nat}(h:n<256): (UInt8.ofNat n).toNat=n:=by simp[UInt8.toNat_ofNat'];omega
def gi:Nat->Nat->Nat->Nat->VD->Nat×Nat×Int
 | 0,_,_,_,_=>(0,0,13)
 | _+1,_,_,_,[]=>(0,0,12)
 | f+1,i,n,u,d::r =>
   if d.toNat<128 then(if(d.toNat=0/\0<i)∨1099511627776<n+d.toNat*u then(0,0,13) else(n+d.toNat*u,i+1,0))
   else gi f (i+1) (n+ (d.toNat - 128)*u) (u*128) r
def aA(l:VD):Nat×Nat×Int:=gi 6 0 0 1 l
theorem Io:∀(f i n u m:Nat)(r:VD),(ak m).length<=f->n+m*u<=1099511627776-> (i=0∨0<m)->gi f i n u (ak m++r)= (n+m*u,i+ (ak m).length,0)
 | 0,i,n,u,m,r,h,_,_=>by have:=En m;omega
 | f+1,i,n,u,m,r,h,hm,hi=>by
   by_cases hs:m<128
   . have e:=lF (n:=m) (by omega)
     rw[eH hs,List.cons_append,gi,e,if_pos hs,if_neg (by omega)];rfl
   . have e:=lF (n:=m % 128+128) (by omega)
     rw[lK hs]at h ⊢;have e1:n+ (m % 128+128 - 128)*u+m / 128* (u*128)=n+m*u:=by
      have:m*u= (128* (m / 128)+m % 128)*u:=by rw[Nat.div_add_mod]
      rw[this,Nat.add_sub_cancel,Nat.add_mul,Nat.mul_comm u 128,<-Nat.mul_assoc,Nat.mul_comm (m / 128) 128];omega
     rw[List.cons_append,gi,e,if_neg (by omega),Io f (i+1) _ _ (m / 128) r (by simp at h;omega) (by omega) (.inr (by omega)),e1];simp only[Z4,Prod.mk.injEq,and_true,true_and];omega
theorem Ia:∀(f i n u:Nat)(l:VD)(x k:Nat),gi f i n u l= (x,k,0)->∃m r,l=ak m++r/\k=i+ (ak m).length/\x=n+m*u/\ (i=0∨0<m)/\x<=1099511627776
 | 0,i,n,u,l,x,k,h=>by simp[gi]at h
 | f+1,i,n,u,[],x,k,h=>by simp[gi]at h
 | f+1,i,n,u,d::r,x,k,h=>by
   rw[gi]at h;by_cases hs:d.toNat<128
   . rw[if_pos hs]at h
     by_cases hc: (d.toNat=0/\0<i)∨1099511627776<n+d.toNat*u
     . rw[if_pos hc]at h;simp at h
     . rw[if_neg hc]at h
       simp only[Prod.mk.injEq,and_true]at h;refine⟨d.toNat,r,?_,?_,h.1.symm,by omega,by omega⟩
       . rw[eH hs];simp
       . rw[eH hs];simp;omega
   . rw[if_neg hs]at h
     obtain⟨m,r',rfl,hk,hx,hm,hM⟩:=Ia f (i+1) _ _ r x k h;have hm':0<m:=by omega
     have hd:d.toNat<256:=d.toNat_lt;have hb:¬(d.toNat - 128+128*m)<128:=by omega
     have e1: (d.toNat - 128+128*m) % 128+128=d.toNat:=by omega
     have e2: (d.toNat - 128+128*m) / 128=m:=by omega
     refine⟨d.toNat - 128+128*m,r',?_,?_,?_,by omega,hM⟩
     . rw[lK hb,e1,e2];simp
     . rw[lK hb,e1,e2];simp;omega
     . rw[hx,Nat.add_mul,Nat.mul_comm u 128,<-Nat.mul_assoc,Nat.mul_comm m 128];omega
theorem kL{m:Nat}(h:m<=1099511627776)(r:VD):aA (ak m++r)= (m,(ak m).length,0):=by
 have hl: (ak m).length<=6:=gy 5 m (by omega);have:=Io 6 0 0 1 m r hl (by omega) (.inl rfl);unfold aA;rw[this];simp
theorem tq{l:VD}{x k:Nat}(h:aA l= (x,k,0)):∃r,l=ak x++r/\k= (ak x).length/\x<=1099511627776:=by
 obtain⟨m,r,h1,h2,h3,_,h5⟩:=Ia 6 0 0 1 l x k h;have:x=m:=by omega
 subst this;exact⟨r,h1,by omega,h5⟩
theorem I4:∀(f i n u:Nat)(l:VD),(gi f i n u l).2.1<=i+l.length
 | 0,i,n,u,l=>by simp[gi]
 | f+1,i,n,u,[]=>by simp[gi]
 | f+1,i,n,u,d::r=>by
   rw[gi];split
   . split <;> simp
   . have:=I4 f (i+1) (n+ (d.toNat - 128)*u) (u*128) r;simp;omega
theorem nM(l:VD): (aA l).2.1<=l.length:=by have:=I4 6 0 0 1 l;unfold aA;omega
theorem Ib:∀(f i n u:Nat)(l:VD),(gi f i n u l).1<=1099511627776
 | 0,i,n,u,l=>by simp[gi]
 | f+1,i,n,u,[]=>by simp[gi]
 | f+1,i,n,u,d::r=>by
   rw[gi];split
   . split
     . simp
     . simp;omega
   . exact Ib f _ _ _ r
theorem xw(l:VD): (aA l).1<=1099511627776:=Ib 6 0 0 1 l
/-! ### texts -/
def aK(l:VD):VD×Nat×Int :=
 if(aA l).2.2≠0 then([],0,(aA l).2.2) else if 65536< (aA l).1 then([],0,13) else if l.length< (aA l).2.1+ (aA l).1 then([],0,12)
 else((l.drop (aA l).2.1).take (aA l).1,(aA l).2.1+ (aA l).1,0)
def ax(t:VD):VD:=ak t.length++t
theorem pJ{t:VD}(h:t.length<=65536)(r:VD):aK (ax t++r)= (t,(ax t).length,0):=by
 have:=kL (m:=t.length) (by omega) (t++r);unfold aK ax;rw[ZZ,this];simp only[ne_eq,not_true,if_false];rw[if_neg (by omega),if_neg (by simp)];simp
theorem EG{l t:VD}{k:Nat}(h:aK l= (t,k,0)):∃r,l=ax t++r/\k= (ax t).length/\t.length<=65536:=by
 unfold aK at h;by_cases h1: (aA l).2.2≠0
 . rw[if_pos h1]at h;simp at h;exact absurd h.2.2 h1
 . rw[if_neg h1]at h
   by_cases h2:65536< (aA l).1
   . rw[if_pos h2]at h;simp at h
   . rw[if_neg h2]at h
     by_cases h3:l.length< (aA l).2.1+ (aA l).1
     . rw[if_pos h3]at h;simp at h
     . rw[if_neg h3]at h
       generalize hg:aA l=g at *;obtain⟨n,m,e⟩:=g;have he:e=0:=by simpa using h1
       subst he;obtain⟨r,rfl,rfl,_⟩:=tq hg;simp only[Prod.mk.injEq,and_true]at h h2 h3;simp only[List.drop_left,af]at h h3;have hl: (r.take n).length=n:=by rw[List.length_take];omega
       rw[<-h.1,<-h.2];refine⟨r.drop n,?_,?_,by omega⟩
       . unfold ax;rw[hl,ZZ,List.take_append_drop]
       . unfold ax;rw[hl,af,hl]
theorem uf(l:VD): (aK l).2.1<=l.length:=by
 unfold aK;split
 . simp
 . split
   . simp
   . split
     . simp
     . simp;omega
/-! ### digests -/
def be:Nat->Nat->VD
 | 0,_=> []
 | k+1,n=>UInt8.ofNat (n / 256 ^ k % 256)::be k n
def dZ(a:Nat)(l:VD):Nat:=l.foldl (fun a b=>a*256+b.toNat) a
theorem jy:∀(k n:Nat),(be k n).length=k
 | 0,_=>rfl
 | k+1,n=>by simp[be,jy k n]
theorem yw:∀(k n a:Nat),dZ a (be k n)=a*256 ^ k+n % 256 ^ k
 | 0,n,a=>by simp[dZ,be];omega
 | k+1,n,a=>by
   have e:=lF (n:=n / 256 ^ k % 256) (by omega);show dZ (a*256+ (UInt8.ofNat (n / 256 ^ k % 256)).toNat) (be k n)=_;rw[yw k n,e,Nat.pow_succ,Nat.mod_mul,Nat.add_mul,Nat.mul_assoc,Nat.mul_comm 256 (256 ^ k),Nat.mul_comm (n / 256 ^ k % 256)];omega
theorem nN:∀(l:VD)(a:Nat),dZ a l< (a+1)*256 ^ l.length
 | [],a=>by simp[dZ]
 | d::l,a=>by
   show dZ (a*256+d.toNat) l<_;have h:=nN l (a*256+d.toNat);have hd:d.toNat<256:=d.toNat_lt;refine Nat.lt_of_lt_of_le h ?_;rw[Z4,Nat.pow_succ,Nat.mul_comm (256 ^ l.length) 256,<-Nat.mul_assoc];exact Nat.mul_le_mul_right _ (by omega)
theorem vY:∀(l:VD)(a:Nat),dZ a l=a*256 ^ l.length+dZ 0 l
 | [],a=>by simp[dZ]
 | d::l,a=>by
   show dZ (a*256+d.toNat) l=a*256 ^ (l.length+1)+dZ (0*256+d.toNat) l;rw[Nat.zero_mul,Nat.zero_add,vY l (a*256+d.toNat),vY l d.toNat,Nat.pow_succ,Nat.add_mul,Nat.mul_comm (256 ^ l.length) 256,<-Nat.mul_assoc];omega
theorem zg:∀(l:VD)(c:Nat),be l.length (c*256 ^ l.length+dZ 0 l)=l
 | [],c=>rfl
 | d::l,c=>by
   have hd:d.toNat<256:=d.toNat_lt;have hv:dZ 0 l<256 ^ l.length:=by have:=nN l 0;simpa using this
   have e:c*256 ^ (l.length+1)+dZ 0 (d::l)= (c*256+d.toNat)*256 ^ l.length+dZ 0 l:=by
    show _+dZ (0*256+d.toNat) l=_;rw[Nat.zero_mul,Nat.zero_add,vY l d.toNat,Nat.pow_succ,Nat.add_mul,Nat.mul_comm (256 ^ l.length) 256,<-Nat.mul_assoc];omega
   have hpos:0<256 ^ l.length:=Nat.pow_pos (by omega);show UInt8.ofNat ((c*256 ^ (l.length+1)+dZ 0 (d::l)) / 256 ^ l.length % 256)::be l.length (c*256 ^ (l.length+1)+dZ 0 (d::l))=_;rw[e,zg l (c*256+d.toNat)]
   congr 1
   rw[Nat.mul_comm (c*256+d.toNat),Nat.mul_add_div hpos,Nat.div_eq_of_lt hv];have: (c*256+d.toNat+0) % 256=d.toNat:=by omega
   rw[this];simp
def WfD(d:Dig):Prop:=0<=d.1/\d.1<18446744073709551616/\0<=d.2/\d.2<18446744073709551616
def ay(d:Dig):VD:=be 8 d.1.toNat++be 8 d.2.toNat
def dg(l:VD):Dig:=((dZ 0 (l.take 8):Int),(dZ 0 ((l.drop 8).take 8):Int))
theorem iE(d:Dig): (ay d).length=16:=by simp[ay,jy]
theorem qh{d:Dig}(h:WfD d)(r:VD):dg (ay d++r)=d:=by
 have e1: ((ay d++r).take 8)=be 8 d.1.toNat:=by
  unfold ay;rw[ZZ,List.take_left' (jy _ _)]
 have e2: (((ay d++r).drop 8).take 8)=be 8 d.2.toNat:=by
  unfold ay;rw[ZZ,List.drop_left' (jy _ _),List.take_left' (jy _ _)]
 unfold dg;rw[e1,e2,yw,yw];obtain⟨a,b⟩:=d;obtain⟨h1,h2,h3,h4⟩:=h;simp only at h1 h2 h3 h4 ⊢;refine Prod.ext ?_ ?_
 . show((0*256 ^ 8+a.toNat % 256 ^ 8:Nat):Int)=a
   omega
 . show((0*256 ^ 8+b.toNat % 256 ^ 8:Nat):Int)=b
   omega
theorem Sv{l:VD}(h:16<=l.length):ay (dg l)=l.take 16:=by
 have h1: (l.take 8).length=8:=by rw[List.length_take];omega
 have h2: ((l.drop 8).take 8).length=8:=by rw[List.length_take,List.length_drop];omega
 have e1:=zg (l.take 8) 0;have e2:=zg ((l.drop 8).take 8) 0;rw[h1]at e1;rw[h2]at e2;simp only[Nat.zero_mul,Nat.zero_add]at e1 e2;unfold ay dg;simp only[Int.toNat_natCast];rw[e1,e2,<-List.take_add]
theorem UC(l:VD):WfD (dg l):=by
 have h1:=nN (l.take 8) 0;have h2:=nN ((l.drop 8).take 8) 0;have l1: (l.take 8).length<=8:=by rw[List.length_take];omega
 have l2: ((l.drop 8).take 8).length<=8:=by rw[List.length_take];omega
 have p1:256 ^ (l.take 8).length<=256 ^ 8:=Nat.pow_le_pow_right (by omega) l1;have p2:256 ^ ((l.drop 8).take 8).length<=256 ^ 8:=Nat.pow_le_pow_right (by omega) l2;refine⟨?_,?_,?_,?_⟩ <;> simp only[dg] <;> omega
/-! ### lists of texts -/
def bY(l:List VD):VD:=ak l.length++l.flatMap ax
def gK:Nat->Nat->VD->Option (List VD×Nat)
 | 0,k,_=>some ([],k)
 | n+1,k,b=>if(aK b).2.2≠0 then none else match gK n (k+ (aK b).2.1) (b.drop (aK b).2.1) with
   | none=>none
   | some (l,c)=>some ((aK b).1::l,c)
def gG(b:VD):Option (List VD×Nat):=if(aA b).2.2≠0∨1000< (aA b).1 then none else gK (aA b).1 (aA b).2.1 (b.drop (aA b).2.1)
def fV(l:List VD):Prop:=l.length<=1000/\∀t∈l,t.length<=65536
theorem FH:∀(l:List VD)(k:Nat)(r:VD),(∀t∈l,t.length<=65536)->gK l.length k (l.flatMap ax++r)=some (l,k+ (l.flatMap ax).length)
 | [],k,r,_=>rfl
 | t::l,k,r,h=>by
   have ht:=pJ (h t (by simp)) (l.flatMap ax++r);rw[Z4,gK,List.flatMap_cons,ZZ,ht];simp only[ne_eq,not_true,if_false,List.drop_left];rw[FH l _ r (fun x hx=>h x (by simp[hx]))];simp only[af,Nat.add_assoc]
theorem Fp:∀(n k:Nat)(b:VD)(l:List VD)(c:Nat),gK n k b=some (l,c)->l.length=n/\ (∀t∈l,t.length<=65536)/\c=k+ (l.flatMap ax).length/\∃r,b=l.flatMap ax++r
 | 0,k,b,l,c,h=>by
   simp only[gK,Option.some.injEq,Prod.mk.injEq]at h;obtain⟨rfl,rfl⟩:=h;exact⟨rfl,by simp,by simp,b,rfl⟩
 | n+1,k,b,l,c,h=>by
   rw[gK]at h;split at h
   . cases h
   . rename_i hz
     split at h
     . cases h
     . rename_i l' c' hr
       simp only[Option.some.injEq,Prod.mk.injEq]at h;obtain⟨rfl,rfl⟩:=h;generalize hg:aK b=g at *;obtain⟨t,m,e⟩:=g;obtain rfl:e=0:=by simpa using hz
       obtain⟨r,rfl,rfl,ht⟩:=EG hg;simp only[List.drop_left]at hr;obtain⟨h1,h2,h3,r',rfl⟩:=Fp n _ _ _ _ hr;refine⟨by simp[h1],?_,?_,r',by simp⟩
       . intro x hx
         rcases List.mem_cons.1 hx with rfl | hx
         . exact ht
         . exact h2 x hx
       . rw[h3];simp[Nat.add_assoc]
theorem NM{l:List VD}(h:fV l)(r:VD):gG (bY l++r)=some (l,(bY l).length):=by
 have hi:=kL (m:=l.length) (by have:=h.1;omega) (l.flatMap ax++r);unfold gG bY;rw[ZZ,hi];simp only[ne_eq,not_true,false_or,List.drop_left];rw[if_neg (by have:=h.1;omega),FH l _ r h.2,af]
theorem O5{b:VD}{l:List VD}{c:Nat}(h:gG b=some (l,c)):fV l/\c= (bY l).length/\∃r,b=bY l++r:=by
 unfold gG at h;split at h
 . cases h
 . rename_i hn
   generalize hg:aA b=g at *;obtain⟨n,m,e⟩:=g;simp only[not_or,Nat.not_lt,ne_eq,Decidable.not_not]at hn;obtain⟨rfl,hn⟩:=hn;obtain⟨r,rfl,rfl,_⟩:=tq hg;simp only[List.drop_left]at h;obtain⟨rfl,h2,rfl,r',rfl⟩:=Fp _ _ _ _ _ h;exact⟨⟨hn,h2⟩,by simp[bY],r',by simp[bY]⟩
theorem fK{n:Nat}(h:n<=1099511627776): (ak n).length<=6:=gy 5 n (by omega)
theorem vJ:∀(l:List VD),(∀t∈l,t.length<=65536)-> (l.flatMap ax).length<=65542*l.length
 | [],_=>by simp
 | t::l,h=>by
   have h1:=vJ l (fun x hx=>h x (by simp[hx]));have h2:=h t (by simp);have h3:=fK (n:=t.length) (by omega);simp only[List.flatMap_cons,af,Z4,ax]at h1 ⊢;omega
theorem pR{l:List VD}(h:fV l): (bY l).length<=65543000:=by
 have h1:=vJ l h.2;have h2:=fK (n:=l.length) (by have:=h.1;omega);have h3:=h.1;simp only[bY,af];omega
/-! ### frames -/
def aB(l:List VD):VD:=1:: (ak (bY l).length++bY l)
def dY:VD->Option (List VD×Nat)
 | []=>none
 | x::s=>if x≠1∨ (aA s).2.2≠0∨s.length< (aA s).2.1+ (aA s).1 then none else
   match gG ((s.drop (aA s).2.1).take (aA s).1) with
   | none=>none
   | some (l,c)=>if c= (aA s).1 then some (l,1+ (aA s).2.1+ (aA s).1) else none
theorem EZ{l:List VD}(h:fV l)(r:VD):dY (aB l++r)=some (l,(aB l).length):=by
 have hi:=kL (m:=(bY l).length) (by have:=pR h;omega) (bY l++r);have ht:=NM h [];rw[List.append_nil]at ht;unfold aB;simp only[List.cons_append,ZZ,dY,hi,ne_eq,not_true,false_or,List.drop_left,List.take_left,ht,if_true];rw[if_neg (by simp)];simp;omega
theorem ny{b:VD}{l:List VD}{c:Nat}(h:dY b=some (l,c)):fV l/\c= (aB l).length/\∃r,b=aB l++r:=by
 cases b with
 | nil=>cases h
 | cons x s =>
   rw[dY]at h;split at h
   . cases h
   . rename_i hn
     split at h
     . cases h
     . rename_i lq cq ht
       by_cases hc:cq= (aA s).1
       . rw[if_pos hc]at h
         simp only[Option.some.injEq,Prod.mk.injEq]at h;obtain⟨rfl,rfl⟩:=h;obtain⟨⟨n,m,e⟩,hg⟩:∃g,aA s=g:=⟨_,rfl⟩
         simp only[hg,not_or,Nat.not_lt,ne_eq,Decidable.not_not]at hn ht hc ⊢;obtain⟨rfl,rfl,hle⟩:=hn;obtain⟨r,rfl,rfl,_⟩:=tq hg;simp only[List.drop_left]at ht hc;obtain⟨hf,rfl,r',hr⟩:=O5 ht;have hl: (r.take n).length=n:=by rw[List.length_take];rw[af]at hle;omega
         have hr0:r'= []:=by
          have:=congrArg List.length hr;rw[hl,af]at this;exact List.length_eq_zero_iff.1 (by omega)
         subst hr0;rw[List.append_nil]at hr;refine⟨hf,?_,r.drop n,?_⟩
         . simp only[aB,Z4,af,hc];omega
         . unfold aB
           rw[hc,<-hr];simp
       . rw[if_neg hc]at h;cases h
theorem nG(l:List VD):2<= (aB l).length:=by
 have:=En (bY l).length;simp only[aB,Z4,af];omega
/-! ### areas -/
def nsec(c sz:Nat):Nat:=(c+sz - 1) / sz
theorem GL{c sz:Nat}(h:0<sz):c<=nsec c sz*sz:=by
 unfold nsec;have h1:=Nat.div_add_mod (c+sz - 1) sz;have h2:=Nat.mod_lt (c+sz - 1) h;rw[Nat.mul_comm]at h1;omega
theorem GR{c sz:Nat}(h:0<sz)(hc:0<c):nsec c sz*sz<c+sz:=by
 unfold nsec;have h1:=Nat.div_mul_le_self (c+sz - 1) sz;omega
theorem nD{c sz:Nat}(h:0<sz)(hc:0<c):0<nsec c sz:=by
 rcases Nat.eq_zero_or_pos (nsec c sz) with e | e
 . have:=GL (c:=c) h;rw[e]at this;omega
 . exact e
def zer(b:VD):Prop:=∀x,b.head? =some x->x=0
instance (b:VD):Decidable (zer b):=by unfold zer;cases b with
 | nil=>exact isTrue (by simp)
 | cons x s=>exact if h:x=0 then isTrue (by simp[h]) else isFalse (by simpa using h)
def frs(sz:Nat)(b:VD):Option (List VD×Nat) :=
 if zer b then some ([],0) else match dY b with
 | none=>none
 | some (l,c)=>if 0<nsec c sz*sz/\0<b.length then match frs sz (b.drop (nsec c sz*sz)) with
   | none=>none
   | some (r,u)=>some (l++r,nsec c sz+u)
   else none
 termination_by b.length
 decreasing_by rw[List.length_drop];omega
theorem kW{sz:Nat}{b:VD}(h:zer b):frs sz b=some ([],0):=by rw[frs,if_pos h]
theorem lL{sz:Nat}{b:VD}{l:List VD}{c:Nat}(hz:0<sz)(h:¬zer b)(hd:dY b=some (l,c)):frs sz b=match frs sz (b.drop (nsec c sz*sz)) with
  | none=>none
  | some (r,u)=>some (l++r,nsec c sz+u):=by
 obtain⟨_,rfl,r,rfl⟩:=ny hd;have h2:=nG l;rw[frs,if_neg h,hd];simp only;rw[if_pos ⟨Nat.mul_pos (nD hz (by omega)) hz,by rw[af];omega⟩]
theorem qm{sz:Nat}{b:VD}(h:¬zer b)(hd:dY b=none):frs sz b=none:=by rw[frs,if_neg h,hd]
theorem GH{sz:Nat}(hz:0<sz):∀(n:Nat)(b:VD)(rs:List VD)(u:Nat),b.length<=n->frs sz b=some (rs,u)->sz ∣ b.length->u*sz<=b.length
 | n,b,rs,u,hn,h,hd=>by
   by_cases h0:zer b
   . rw[kW h0]at h
     simp only[Option.some.injEq,Prod.mk.injEq]at h;rw[<-h.2];omega
   . cases hdec:dY b with
     | none=>rw[qm h0 hdec]at h;cases h
     | some q =>
       obtain⟨l,c⟩:=q;rw[lL hz h0 hdec]at h;obtain⟨_,rfl,r,rfl⟩:=ny hdec;have h2:=nG l;have hk:=nD hz (c:=(aB l).length) (by omega);have hlt:=GR hz (c:=(aB l).length) (by omega);have hle:nsec (aB l).length sz*sz<= (aB l++r).length:=by
        obtain⟨q,hq⟩:=hd;rw[hq,Nat.mul_comm sz q];refine Nat.mul_le_mul_right _ ?_;have: (aB l).length<=q*sz:=by rw[Nat.mul_comm,<-hq,af];omega
        have h3:nsec (aB l).length sz*sz< (q+1)*sz:=by rw[Nat.succ_mul];omega
        exact Nat.lt_succ_iff.1 (Nat.lt_of_mul_lt_mul_right h3)
       have hks:=Nat.mul_pos hk hz;split at h
       . cases h
       . rename_i r' u' hr
         simp only[Option.some.injEq,Prod.mk.injEq]at h;obtain⟨_,rfl⟩:=h;cases n with
         | zero=>rw[af]at hn;omega
         | succ n =>
           have:=GH hz n _ _ _ (by rw[List.length_drop];omega) hr (by rw[List.length_drop];exact Nat.dvd_sub hd (Nat.dvd_mul_left _ _));rw[List.length_drop]at this;rw[Nat.add_mul];omega
theorem Gp{sz:Nat}(hz:0<sz):∀(n:Nat)(b:VD)(rs:List VD)(u:Nat),b.length<=n->frs sz b=some (rs,u)->zer (b.drop (u*sz))
 | n,b,rs,u,hn,h=>by
   by_cases h0:zer b
   . rw[kW h0]at h
     simp only[Option.some.injEq,Prod.mk.injEq]at h;rw[<-h.2];simpa using h0
   . cases hdec:dY b with
     | none=>rw[qm h0 hdec]at h;cases h
     | some q =>
       obtain⟨l,c⟩:=q;rw[lL hz h0 hdec]at h;obtain⟨_,rfl,r,rfl⟩:=ny hdec;have h2:=nG l;have hks:=Nat.mul_pos (nD hz (c:=(aB l).length) (by omega)) hz;split at h
       . cases h
       . rename_i r' u' hr
         simp only[Option.some.injEq,Prod.mk.injEq]at h;obtain⟨_,rfl⟩:=h;cases n with
         | zero=>rw[af]at hn;omega
         | succ n =>
           have:=Gp hz n _ _ _ (by rw[List.length_drop,af];rw[af]at hn;omega) hr
           rwa[List.drop_drop,<-Nat.add_mul]at this
theorem GV{sz:Nat}(hz:0<sz):∀(n:Nat)(b b':VD)(rs l:List VD)(u k:Nat),b.length<=n->frs sz b=some (rs,u)->b'.take (u*sz)=b.take (u*sz)->frs sz (b'.drop (u*sz))=some (l,k)->frs sz b'=some (rs++l,u+k)
 | n,b,b',rs,l,u,k,hn,h,ht,hd=>by
   by_cases h0:zer b
   . rw[kW h0]at h
     simp only[Option.some.injEq,Prod.mk.injEq]at h;obtain⟨rfl,rfl⟩:=h
     simpa using hd
   . cases hdec:dY b with
     | none=>rw[qm h0 hdec]at h;cases h
     | some q =>
       obtain⟨l0,c⟩:=q;rw[lL hz h0 hdec]at h;obtain⟨hf,rfl,r,rfl⟩:=ny hdec;have h2:=nG l0;have hge:=GL (c:=(aB l0).length) hz;have hks:=Nat.mul_pos (nD hz (c:=(aB l0).length) (by omega)) hz;split at h
       . cases h
       . rename_i r' u' hr
         simp only[Option.some.injEq,Prod.mk.injEq]at h;obtain⟨rfl,rfl⟩:=h;have hb':∃s,b'=aB l0++s:=by
          refine⟨b'.drop (aB l0).length,?_⟩;have e1: (b'.take ((nsec (aB l0).length sz+u')*sz)).take (aB l0).length= ((aB l0++r).take ((nsec (aB l0).length sz+u')*sz)).take (aB l0).length:=by rw[ht]
          rw[List.take_take,List.take_take,Nat.min_eq_left (by rw[Nat.add_mul];omega),List.take_left]at e1;exact(by rw[e1]:aB l0++b'.drop (aB l0).length=b'.take (aB l0).length++b'.drop (aB l0).length).trans (List.take_append_drop _ _) |>.symm
         obtain⟨s,rfl⟩:=hb';have a:=EZ hf s;have h0':¬zer (aB l0++s):=fun h=>by have:=h 1 rfl;simp at this
         rw[lL hz h0' a];cases n with
         | zero=>rw[af]at hn;omega
         | succ n =>
           have:=GV hz n _ ((aB l0++s).drop (nsec (aB l0).length sz*sz)) r' l u' k (by rw[List.length_drop,af];rw[af]at hn;omega) hr (by
            rw[List.take_drop,List.take_drop,<-Nat.add_mul,ht]) (by rw[List.drop_drop,<-Nat.add_mul];exact hd)
           rw[this];simp[Nat.add_assoc]
/-! ### a text in sectors -/
def bK(sz:Nat)(t:VD):VD:=t++List.replicate (sz - t.length) 0
def secs(sz:Nat)(t:VD):List VD:=if 0<t.length/\0<sz then bK sz (t.take sz)::secs sz (t.drop sz) else []
 termination_by t.length
 decreasing_by rw[List.length_drop];omega
theorem iQ{sz:Nat}{t:VD}(h:t.length<=sz): (bK sz t).length=sz:=by simp[bK];omega
theorem FO(sz:Nat):secs sz []= []:=by rw[secs];simp
theorem wO{sz:Nat}{t:VD}(hz:0<sz)(h:t≠ []):secs sz t=bK sz (t.take sz)::secs sz (t.drop sz):=by
 rw[secs,if_pos ⟨List.length_pos_iff.2 h,hz⟩]
theorem Oh{sz:Nat}(hz:0<sz):nsec 0 sz=0:=by unfold nsec;exact Nat.div_eq_of_lt (by omega)
theorem Qy{c sz:Nat}(hz:0<sz)(hc:0<c):nsec c sz=1+nsec (c - sz) sz:=by
 unfold nsec;by_cases h:sz<=c
 . have:c+sz - 1= (c - sz+sz - 1)+sz:=by omega
   rw[this,Nat.add_div_right _ hz];omega
 . rw[show c - sz=0 by omega,Nat.div_eq_of_lt (show 0+sz - 1<sz by omega),Nat.div_eq_of_lt_le (k:=1) (by omega) (by omega)]
theorem mV{sz:Nat}(hz:0<sz):∀(n:Nat)(t:VD),t.length<=n-> (secs sz t).length=nsec t.length sz/\ (∀s∈secs sz t,s.length=sz)/\∃z,(secs sz t).flatten=t++List.replicate z 0
 | n,t,hn=>by
   by_cases h:t= []
   . subst h
     rw[FO];exact⟨by simp[Oh hz],by simp,0,by simp⟩
   . have hp:=List.length_pos_iff.2 h
     rw[wO hz h];cases n with
     | zero=>omega
     | succ n =>
       obtain⟨h1,h2,z,h3⟩:=mV hz n (t.drop sz) (by rw[List.length_drop];omega);refine⟨?_,?_,?_⟩
       . rw[Z4,h1,List.length_drop,Qy hz hp];omega
       . intro s hs
         rcases List.mem_cons.1 hs with rfl | hs
         . exact iQ (by rw[List.length_take];omega)
         . exact h2 s hs
       . rw[List.flatten_cons,h3]
         by_cases hl:sz<=t.length
         . refine⟨z,?_⟩
           have:sz - (t.take sz).length=0:=by rw[List.length_take];omega
           rw[bK,this,List.replicate_zero,List.append_nil,<-ZZ,List.take_append_drop]
         . refine⟨sz - (t.take sz).length+z,?_⟩
           rw[bK,List.drop_of_length_le (by omega),List.nil_append,ZU (by omega),ZZ,List.replicate_append_replicate]
theorem SY{sz:Nat}(hz:0<sz){l:List VD}(hf:fV l){rest:VD}(hr:zer rest):frs sz ((secs sz (aB l)).flatten++rest)=some (l,nsec (aB l).length sz):=by
 obtain⟨h1,h2,z,h3⟩:=mV hz _ (aB l) aj;have hlen: (secs sz (aB l)).flatten.length=nsec (aB l).length sz*sz:=by
  rw[List.length_flatten,<-h1];have:∀(L:List VD),(∀s∈L,s.length=sz)-> (L.map List.length).sum=L.length*sz:=by
   intro L
   induction L with
   | nil=>simp
   | cons x L ih=>intro h;rw[List.map_cons,List.sum_cons,ih (fun s hs=>h s (by simp[hs])),h x (by simp),Z4,Nat.succ_mul];omega
  exact this _ h2
 have hd:=EZ hf (List.replicate z 0++rest);have h0:¬zer (aB l++ (List.replicate z 0++rest)):=fun h=>by have:=h 1 rfl;simp at this
 rw[<-ZZ,<-h3]at hd h0;rw[lL hz h0 hd,List.drop_left' hlen,kW hr];simp
structure Dk where
 sz:Nat
 ss:List VD
 pn:List (Nat×VD)
 lf:Int
structure Dk.Ok(d:Dk):Prop where
 sz0:0<d.sz
 sz1:d.sz<=512
 n0:0<d.ss.length
 n1:d.ss.length<=1000
 len:∀s∈d.ss,s.length=d.sz
 pn:∀w∈d.pn,w.1<d.ss.length/\w.2.length=d.sz
 lf: -1<=d.lf
 lm:d.lf<=9223372036854775807
abbrev Dop:=Option (Nat×VD)
def fP(x:Int):Int:=if 0<x then x - 1 else x
def settle(ss:List VD)(ws:List (Nat×VD)):List VD:=ws.foldl (fun s w=>s.set w.1 w.2) ss
def doO(d:Dk):Dop->Dk
 | some w=>{d with pn:=d.pn++ [w],lf:=fP d.lf}
 | none=>{d with ss:=settle d.ss d.pn,pn:= [],lf:=fP d.lf}
def aJ:Dk->List Dop->Dk×Int
 | d,[]=>(d,0)
 | d,o::os=>if d.lf=0 then(d,20) else aJ (doO d o) os
def iF(sz:Nat)(p:Int):Nat:=(p.tmod (sz+1:Nat)).natAbs
def dA(sz:Nat):List VD->List (Nat×VD)->List Int->List VD
 | ss,[],_=>ss
 | ss,w::ws,ps=>dA sz (ss.set w.1 (w.2.take (iF sz (ps.headD 0))++ (ss.getD w.1 []).drop (iF sz (ps.headD 0)))) ws ps.tail
def gJ(d:Dk)(ps:List Int):Dk:={d with ss:=dA d.sz d.ss d.pn ps,pn:= [],lf:= -1}
theorem mQ(ws:List (Nat×VD)):∀ss:List VD,(settle ss ws).length=ss.length:=by
 induction ws with
 | nil=>intro ss;rfl
 | cons w ws ih=>intro ss;show(settle (ss.set w.1 w.2) ws).length=_;rw[ih,List.length_set]
theorem mZ{sz:Nat}:∀(ws:List (Nat×VD))(ss:List VD)(ps:List Int),(dA sz ss ws ps).length=ss.length
 | [],_,_=>rfl
 | w::ws,ss,ps=>by rw[dA,mZ ws,List.length_set]
theorem su{sz:Nat}(Q:Nat->VD->Prop):∀(ws:List (Nat×VD))(ss:List VD)(ps:List Int),(∀i s,ss[i]? =some s->Q i s)-> (∀w∈ws,∀s q,Q w.1 s->Q w.1 (w.2.take q++s.drop q))->∀i s,(dA sz ss ws ps)[i]? =some s->Q i s
 | [],_,_,h,_,i,s,hs=>h i s hs
 | w::ws,ss,ps,h,hw,i,s,hs=>by
   rw[dA]at hs;refine su Q ws _ _ (fun j t ht=>?_) (fun x hx=>hw x (by simp[hx])) i s hs;rw[List.getElem?_set]at ht;split at ht
   . rename_i e
     subst e;split at ht
     . rename_i hl
       cases ht
       refine hw w (by simp) _ _ (h w.1 _ ?_);rw[List.getD_eq_getElem?_getD,Z5 hl];rfl
     . cases ht
   . exact h j t ht
theorem rF(Q:Nat->VD->Prop):∀(ws:List (Nat×VD))(ss:List VD),(∀i s,ss[i]? =some s->Q i s)-> (∀w∈ws,Q w.1 w.2)->∀i s,(settle ss ws)[i]? =some s->Q i s
 | [],_,h,_,i,s,hs=>h i s hs
 | w::ws,ss,h,hw,i,s,hs=>by
   refine rF Q ws (ss.set w.1 w.2) (fun j t ht=>?_) (fun x hx=>hw x (by simp[hx])) i s hs;rw[List.getElem?_set]at ht;split at ht
   . rename_i e
     subst e;split at ht
     . cases ht;exact hw w (by simp)
     . cases ht
   . exact h j t ht
theorem CE(ss:List VD)(w:Nat×VD):settle ss [w]=ss.set w.1 w.2:=rfl
theorem EE{L:List VD}{i:Nat}{x:VD}(h:L[i]? =some x):L.set i x=L:=by
 refine List.ext_getElem? fun j=>?_;rw[List.getElem?_set];split
 . rename_i e
   subst e;rw[if_pos (List.getElem?_eq_some_iff.1 h).1,h]
 . rfl
theorem JO(ss:List VD)(a b:List (Nat×VD)):settle ss (a++b)=settle (settle ss a) b:=by simp[settle]
theorem pg:∀(os:List Dop)(d:Dk),∃pre suf,os=pre++suf/\ (aJ d os).1=pre.foldl doO d/\ ((suf= []/\ (aJ d os).2=0)∨ ((aJ d os).2=20/\ (aJ d os).1.lf=0))
 | [],d=>⟨[],[],rfl,rfl,.inl ⟨rfl,rfl⟩⟩
 | o::os,d=>by
   by_cases h:d.lf=0
   . exact⟨[],o::os,rfl,by simp[aJ,h],.inr (by simp[aJ,h])⟩
   . obtain⟨pre,suf,h1,h2,h3⟩:=pg os (doO d o)
     refine⟨o::pre,suf,by rw[h1];rfl,?_,?_⟩
     . rw[aJ,if_neg h];exact h2
     . rw[aJ,if_neg h];exact h3
theorem Us{d:Dk}{o:Dop}(h:d.lf= -1): (doO d o).lf= -1:=by cases o <;> simp[doO,fP,h]
theorem rW:∀(os:List Dop)(d:Dk),d.lf= -1->aJ d os= (os.foldl doO d,0)/\ (os.foldl doO d).lf= -1
 | [],d,h=>⟨rfl,h⟩
 | o::os,d,h=>by rw[aJ,if_neg (by omega)];exact rW os _ (Us h)
theorem oM:∀(ws:List (Nat×VD))(d:Dk),((ws.map some).foldl doO d).ss=d.ss/\ ((ws.map some).foldl doO d).pn=d.pn++ws/\ ((ws.map some).foldl doO d).sz=d.sz
 | [],d=>⟨rfl,by simp,rfl⟩
 | w::ws,d=>by
   obtain⟨h1,h2,h3⟩:=oM ws (doO d (some w));exact⟨h1,by rw[List.map_cons,List.foldl_cons,h2];simp[doO],h3⟩
/-! ### journals -/
def hf(ss:List VD):Nat:=(ss.length - 1) / 2
def aG(ss:List VD)(a:Nat):Nat:=1+ (a - 1)*hf ss
def area(ss:List VD)(a:Nat):VD:=((ss.drop (aG ss a)).take (hf ss)).flatten
def dF(sz a:Nat):VD:=bK sz [UInt8.ofNat a]
structure Jn(sz:Nat)(ss:List VD)(a:Nat)(rs:List VD)(u:Nat):Prop where
 sz0:0<sz
 n3:3<=ss.length
 len:∀s∈ss,s.length=sz
 act:a=1∨a=2
 mark:ss[0]? =some (dF sz a)
 recs:frs sz (area ss a)=some (rs,u)
section
variable {sz : Nat} {ss ss' : List VD} {a u : Nat} {rs l : List VD}
theorem yu{L:List VD}(h:∀s∈L,s.length=sz):L.flatten.length=L.length*sz:=by
 induction L with
 | nil=>simp
 | cons x L ih=>rw[List.flatten_cons,af,ih (fun s hs=>h s (by simp[hs])),h x (by simp),Z4,Nat.succ_mul];omega
theorem Bq{L:List VD}(h:∀s∈L,s.length=sz)(k:Nat):L.flatten.take (k*sz)= (L.take k).flatten:=by
 induction L generalizing k with
 | nil=>simp
 | cons x L ih =>
   cases k with
   | zero=>simp
   | succ k =>
     have hx:=h x (by simp);rw[List.flatten_cons,List.take_append,hx,ZU (by rw[hx,Nat.succ_mul];omega),Nat.succ_mul,Nat.add_sub_cancel,ih (fun s hs=>h s (by simp[hs])),List.take_succ_cons,List.flatten_cons]
theorem Bl{L:List VD}(h:∀s∈L,s.length=sz)(k:Nat):L.flatten.drop (k*sz)= (L.drop k).flatten:=by
 induction L generalizing k with
 | nil=>simp
 | cons x L ih =>
   cases k with
   | zero=>simp
   | succ k =>
     have hx:=h x (by simp);rw[List.flatten_cons,List.drop_append,hx,List.drop_of_length_le (l:=x) (by rw[hx,Nat.succ_mul];omega),List.nil_append,Nat.succ_mul,Nat.add_sub_cancel,ih (fun s hs=>h s (by simp[hs])),List.drop_succ_cons]
def fB(ss:List VD)(a:Nat):List VD:=(ss.drop (aG ss a)).take (hf ss)
theorem lH{i:Nat}: (fB ss a)[i]? =if i<hf ss then ss[aG ss a+i]? else none:=by
 unfold fB;rw[List.getElem?_take,List.getElem?_drop]
theorem iO(h:a=1∨a=2)(hn:3<=ss.length):aG ss a+hf ss<=ss.length/\1<=aG ss a/\1<=hf ss:=by
 unfold aG hf;rcases h with rfl | rfl <;> omega
theorem EY(h:a=1∨a=2)(hn:3<=ss.length): (fB ss a).length=hf ss:=by
 have:=iO h hn;unfold fB;rw[List.length_take,List.length_drop];omega
theorem jJ(h:∀s∈ss,s.length=sz):∀s∈fB ss a,s.length=sz:=fun s hs=>h s (List.mem_of_mem_drop (List.mem_of_mem_take hs))
theorem Jn.u_le(h:Jn sz ss a rs u):u<=hf ss:=by
 have h1:=GH h.sz0 _ _ _ _ aj h.recs (by
  show sz ∣ (fB ss a).flatten.length;rw[yu (jJ h.len)];exact Nat.dvd_mul_left _ _)
 have h2: (area ss a).length=hf ss*sz:=by
  show(fB ss a).flatten.length=_;rw[yu (jJ h.len),EY h.act h.n3]
 rw[h2]at h1;exact Nat.le_of_mul_le_mul_right h1 h.sz0
theorem Jn.free(h:Jn sz ss a rs u){s:VD}(hu:u<hf ss)(hs:ss[aG ss a+u]? =some s):zer s:=by
 have h1:=Gp h.sz0 _ _ _ _ aj h.recs;have h2: (area ss a).drop (u*sz)= ((fB ss a).drop u).flatten:=Bl (jJ h.len) u;have h3: (fB ss a)[u]? =some s:=by rw[lH,if_pos hu];exact hs
 have hl:=List.getElem?_eq_some_iff.1 h3;rw[h2,List.drop_eq_getElem_cons hl.1,hl.2,List.flatten_cons]at h1;intro x hx;refine h1 x ?_;cases s with
 | nil=>cases hx
 | cons y s=>exact hx
theorem Jn.other(h:Jn sz ss a rs u)(hn:ss'.length=ss.length)(hl:∀s∈ss',s.length=sz)(h0:ss'[0]? =ss[0]?)(hu:∀i,i<u->ss'[aG ss a+i]? =ss[aG ss a+i]?){k:Nat}(hr:frs sz (((fB ss' a).drop u).flatten)=some (l,k)):Jn sz ss' a (rs++l) (u+k):=by
 have e1:hf ss'=hf ss:=by unfold hf;rw[hn]
 have e2:aG ss' a=aG ss a:=by unfold aG;rw[e1]
 refine⟨h.sz0,by rw[hn];exact h.n3,hl,h.act,h0.trans h.mark,?_⟩;refine GV h.sz0 _ _ _ _ _ _ _ aj h.recs ?_ ?_
 . show(fB ss' a).flatten.take _= (fB ss a).flatten.take _
   rw[Bq (jJ hl),Bq (jJ h.len)]
   congr 1
   refine List.ext_getElem? fun i=>?_;rw[List.getElem?_take,List.getElem?_take];split
   . rename_i hi
     rw[lH,lH,e1,e2,hu i hi]
   . rfl
 . show frs sz ((fB ss' a).flatten.drop _)=_
   rw[Bl (jJ hl)];exact hr
theorem xE{L:List VD}(hsz:0<sz)(hl:∀s∈L,s.length=sz)(h:∀s,L[0]? =some s->zer s):zer L.flatten:=by
 cases L with
 | nil=>intro x hx;cases hx
 | cons s L =>
   have hs:=h s rfl;cases s with
   | nil=>have:=hl [] (by simp);simp at this;omega
   | cons y s=>intro x hx;exact hs x hx
theorem Jn.keep(h:Jn sz ss a rs u)(hn:ss'.length=ss.length)(hl:∀s∈ss',s.length=sz)(h0:ss'[0]? =ss[0]?)(hu:∀i,i<u->ss'[aG ss a+i]? =ss[aG ss a+i]?)(hz:∀s,u<hf ss->ss'[aG ss a+u]? =some s->zer s):Jn sz ss' a rs u:=by
 have e1:hf ss'=hf ss:=by unfold hf;rw[hn]
 have e2:aG ss' a=aG ss a:=by unfold aG;rw[e1]
 have:=h.other (l:= []) (k:=0) hn hl h0 hu (kW (xE h.sz0 (fun s hs=>jJ hl s (List.mem_of_mem_drop hs)) (fun s hs=>by
  rw[List.getElem?_drop,lH,e1,e2]at hs;split at hs
  . rename_i hi;exact hz s hi hs
  . cases hs)))
 rwa[List.append_nil]at this
end
/-! ### appending -/
def dL(at_:Nat)(S:List VD)(e sz:Nat):List (Nat×VD):=(S.zipIdx at_).map (fun p=>(p.2,p.1))++ (if at_+S.length<e then [(at_+S.length,bK sz [])] else [])
def jw:List VD->List VD
 | []=> []
 | s::S=>(0::s.tail)::S
def fM(sz:Nat)(ss:List VD)(a u:Nat)(S:List VD):List Dop :=
 (dL (aG ss a+u) (jw S) (aG ss a+hf ss) sz).map some++ [none,some (aG ss a+u,S.headD []),none]
def gB(sz:Nat)(ss:List VD)(a:Nat)(S:List VD):List Dop :=
 (dL (aG ss (3 - a)) S (aG ss (3 - a)+hf ss) sz).map some++ [none,some (0,dF sz (3 - a)),none]
theorem xI:∀(S:List VD)(p:Nat)(ss:List VD),p+S.length<=ss.length->∀i,(settle ss ((S.zipIdx p).map (fun q=>(q.2,q.1))))[i]? =if p<=i/\i<p+S.length then S[i - p]? else ss[i]?
 | [],p,ss,_,i=>by simp[settle];omega
 | s::S,p,ss,h,i=>by
   show(settle (ss.set p s) ((S.zipIdx (p+1)).map (fun q=>(q.2,q.1))))[i]? =_;rw[Z4]at h ⊢;rw[xI S (p+1) (ss.set p s) (by rw[List.length_set];omega) i];by_cases h1:p+1<=i/\i<p+1+S.length
   . rw[if_pos h1,if_pos (by omega),show i - p= (i - (p+1))+1 by omega,List.getElem?_cons_succ]
   . rw[if_neg h1,List.getElem?_set]
     by_cases h2:p=i
     . subst h2
       rw[if_pos rfl,if_pos (by omega),if_pos (by omega),Nat.sub_self,List.getElem?_cons_zero]
     . rw[if_neg h2,if_neg (by omega)]
theorem Fq{S:List VD}{p e sz:Nat}{ss:List VD}(h:p+S.length<=e)(he:e<=ss.length)(i:Nat): (settle ss (dL p S e sz))[i]? =if p<=i/\i<p+S.length then S[i - p]? else if i=p+S.length/\i<e then some (bK sz []) else ss[i]? :=by
 unfold dL;rw[JO];split
 . rename_i hlt
   show((settle ss _).set _ _)[i]? =_;rw[List.getElem?_set,mQ,xI S p ss (by omega) i];by_cases h1:p+S.length=i
   . rw[if_pos h1,if_pos (by omega),if_neg (by omega),if_pos (by omega)]
   . rw[if_neg h1,if_neg (c:=i=p+S.length/\i<e) (by omega)]
 . rename_i hlt
   show(settle ss _)[i]? =_;rw[xI S p ss (by omega) i,if_neg (c:=i=p+S.length/\i<e) (by omega)]
theorem sU{S:List VD}{p e sz:Nat}{w:Nat×VD}(h:p+S.length<=e)(hw:w∈dL p S e sz):p<=w.1/\w.1<e/\ (S[w.1 - p]? =some w.2∨ (w.1=p+S.length/\w.2=bK sz [])):=by
 unfold dL at hw;rcases List.mem_append.1 hw with hw | hw
 . obtain⟨q,hq,rfl⟩:=List.mem_map.1 hw
   have h1:=List.mem_zipIdx hq;obtain⟨h2,h3,h4⟩:=h1;refine⟨h2,by show q.2<e;omega,.inl ?_⟩;show S[q.2 - p]? =some q.1;rw[h4];exact Z5 _
 . split at hw
   . rename_i hlt
     rw[ae]at hw;subst hw;exact⟨by show p<=p+S.length;omega,hlt,.inr ⟨rfl,rfl⟩⟩
   . cases hw
theorem D9{W pre suf:List Dop}{x y z:Dop}(h:W++ [x,y,z]=pre++suf): (∃t,W=pre++t)∨pre=W++ [x]∨pre=W++ [x,y]∨ (pre=W++ [x,y,z]/\suf= []):=by
 rcases List.append_eq_append_iff.1 h with ⟨t,h1,h2⟩ | ⟨t,h1,h2⟩
 . match t,h2 with
   | [],h2=>exact .inl ⟨[],by rw[h1];simp⟩
   | [_],h2=>simp only[List.cons_append,List.nil_append,List.cons.injEq]at h2;rw[h2.1];exact .inr (.inl h1)
   | [_,_],h2=>simp only[List.cons_append,List.nil_append,List.cons.injEq]at h2;rw[h2.1,h2.2.1];exact .inr (.inr (.inl h1))
   | _::_::_::t,h2 =>
     simp only[List.cons_append,List.cons.injEq]at h2;have h3:=List.append_eq_nil_iff.1 h2.2.2.2.symm;rw[h3.1,<-h2.1,<-h2.2.1,<-h2.2.2.1]at h1;exact .inr (.inr (.inr ⟨h1,h3.2⟩))
 . exact .inl ⟨t,h1⟩
theorem Gn{pre t:List Dop}{V:List (Nat×VD)}(h:V.map some=pre++t):∃V':List (Nat×VD),pre=V'.map some/\∀w∈V',w∈V:=by
 refine⟨V.take pre.length,?_,fun w hw=>List.mem_of_mem_take hw⟩;rw[List.map_take,h,List.take_left]
theorem Qe{x y:VD}(h0:0<x.length)(hx:zer x)(hy:zer y)(q:Nat):zer (x.take q++y.drop q):=by
 cases q with
 | zero=>simpa using hy
 | succ q =>
   cases x with
   | nil=>simp at h0
   | cons a x=>intro z hz;exact hx z (by simpa using hz)
theorem yB{sz:Nat}{x y:VD}(hx:x.length=sz)(hy:y.length=sz)(q:Nat): (x.take q++y.drop q).length=sz:=by
 rw[af,List.length_take,List.length_drop];omega
theorem DD{x y:UInt8}{t:VD}(q:Nat): (x::t).take q++ (y::t).drop q=if q=0 then y::t else x::t:=by
 cases q with
 | zero=>rfl
 | succ q=>rw[if_neg (by omega)];simp
theorem sQ(sz:Nat):zer (bK sz []):=by
 intro x hx;unfold bK at hx;rw[List.nil_append]at hx;exact List.eq_of_mem_replicate (List.mem_of_mem_head? hx)
theorem FQ(sz a:Nat):dF sz a=UInt8.ofNat a::List.replicate (sz - 1) 0:=by simp[dF,bK]
section
variable {sz : Nat} {ss ss' S : List VD} {a u : Nat} {rs l : List VD}
structure SecF(sz:Nat)(l:List VD)(S:List VD):Prop where
 fit:fV l
 eq:S=secs sz (aB l)
theorem SecF.cons(h:SecF sz l S)(hz:0<sz):∃t S1,S= (1::t)::S1/\ (1::t:VD).length=sz:=by
 have h1:aB l≠ []:=by unfold aB;simp
 have h2:=wO hz h1;obtain⟨k,rfl⟩:∃k,sz=k+1:=⟨sz - 1,by omega⟩
 have h3: (aB l).take (k+1)=1:: (ak (bY l).length++bY l).take k:=rfl;have h4:=iQ (sz:=k+1) (t:=(aB l).take (k+1)) (by rw[List.length_take];omega);rw[h3]at h2 h4;exact⟨_,_,h.eq.trans h2,h4⟩
theorem SecF.siz(h:SecF sz l S)(hz:0<sz):∀s∈S,s.length=sz:=by rw[h.eq];exact(mV hz _ _ aj).2.1
theorem SecF.read(h:SecF sz l S)(hz:0<sz){rest:VD}(hr:zer rest):frs sz (S.flatten++rest)=some (l,S.length):=by
 have h1:=SY hz h.fit hr;rw[h.eq,h1,(mV hz _ _ aj).1]
theorem E8(hz:0<sz)(hl:∀s∈ss',s.length=sz){k:Nat}(h:∀s,k<hf ss'->ss'[aG ss' a+k]? =some s->zer s):zer ((fB ss' a).drop k).flatten :=
 xE hz (fun s hs=>jJ hl s (List.mem_of_mem_drop hs)) (fun s hs=>by
  rw[List.getElem?_drop,lH]at hs;split at hs
  . rename_i hi;exact h s hi hs
  . cases hs)
theorem CV{S:List VD}{k:Nat}(hk:k+S.length<=hf ss')(h:∀i,i<S.length->ss'[aG ss' a+ (k+i)]? =S[i]?): (fB ss' a).drop k=S++ (fB ss' a).drop (k+S.length):=by
 refine List.ext_getElem? fun i=>?_;rw[List.getElem?_drop,List.getElem?_append];split
 . rename_i hi
   rw[lH,if_pos (by omega),h i hi]
 . rename_i hi
   rw[List.getElem?_drop]
   congr 1;omega
theorem Jn.frame(h:Jn sz ss a rs u){S:List VD}(hS:SecF sz l S)(hk:u+S.length<=hf ss)(hn:ss'.length=ss.length)(hl:∀s∈ss',s.length=sz)(h0:ss'[0]? =ss[0]?)(hu:∀i,i<u->ss'[aG ss a+i]? =ss[aG ss a+i]?)
  (hs:∀i,i<S.length->ss'[aG ss a+ (u+i)]? =S[i]?) (hz:∀s,u+S.length<hf ss->ss'[aG ss a+ (u+S.length)]? =some s->zer s):Jn sz ss' a (rs++l) (u+S.length):=by
 have e1:hf ss'=hf ss:=by unfold hf;rw[hn]
 have e2:aG ss' a=aG ss a:=by unfold aG;rw[e1]
 refine h.other hn hl h0 hu ?_;rw[CV (by rw[e1];exact hk) (by rw[e2];exact hs),List.flatten_append];exact hS.read h.sz0 (E8 h.sz0 hl (by rw[e1,e2];exact hz))
theorem Cb(h:Jn sz ss a rs u){S:List VD}(hS:SecF sz l S)(hk:u+S.length<=hf ss){lf:Int}{pre suf:List Dop}(hp:fM sz ss a u S=pre++suf)(ps:List Int) :
  let d:=pre.foldl doO ⟨sz,ss,[],lf⟩
  (Jn sz (dA sz d.ss d.pn ps) a rs u∨Jn sz (dA sz d.ss d.pn ps) a (rs++l) (u+S.length))/\ (suf= []->d.pn= []/\Jn sz d.ss a (rs++l) (u+S.length)):=by
 have hfit:=iO h.act h.n3;obtain⟨t,S1,rfl,ht⟩:=hS.cons h.sz0;have hSz:=hS.siz h.sz0;have hkl:u<hf ss:=by rw[Z4]at hk;omega
 have hfl: (jw ((1::t)::S1))= (0::t)::S1:=rfl;have hle:aG ss a+u+ (((0:UInt8)::t)::S1).length<=aG ss a+hf ss:=by simp only[Z4]at hk ⊢;omega
 have hW:∀w∈dL (aG ss a+u) ((0::t)::S1) (aG ss a+hf ss) sz,aG ss a+u<=w.1/\w.1<aG ss a+hf ss/\w.2.length=sz/\ (w.1=aG ss a+u->zer w.2):=by
  intro w hw;obtain⟨h1,h2,h3⟩:=sU hle hw;refine⟨h1,h2,?_,?_⟩
  . rcases h3 with h3 | ⟨_,h3⟩
    . rcases List.mem_cons.1 (Z7 h3) with e | e
      . rw[e];simpa using ht
      . exact hSz _ (by simp[e])
    . rw[h3];exact iQ (by simp)
  . intro e
    rcases h3 with h3 | ⟨h3,_⟩
    . rw[e,Nat.sub_self]at h3
      simp only[List.getElem?_cons_zero,Option.some.injEq]at h3;rw[<-h3];intro x hx;simpa using hx.symm
    . rw[Z4]at h3;omega
 let Q:Nat->VD->Prop:=fun i s=>s.length=sz/\ ((i<aG ss a+u∨aG ss a+hf ss<=i)->ss[i]? =some s)/\ (i=aG ss a+u->zer s)
 have f:∀i s,ss[i]? =some s->Q i s:=fun i s hs=>⟨h.len s (Z7 hs),fun _=>hs,fun e=>h.free hkl (by rw[<-e];exact hs)⟩
 have g:∀ss':List VD,ss'.length=ss.length-> (∀i s,ss'[i]? =some s->Q i s)->Jn sz ss' a rs u:=by
  intro ss' hn hq;have hsame:∀i,i<aG ss a+u->ss'[i]? =ss[i]? :=by
   intro i hi;have hl:i<ss'.length:=by rw[hn];omega
   have:=(hq i _ (Z5 hl)).2.1 (.inl hi);rw[this,Z5 hl]
  refine h.keep hn (fun s hs=>?_) (hsame 0 (by omega)) (fun i hi=>hsame _ (by omega)) (fun s _ hs=>(hq _ _ hs).2.2 rfl);obtain⟨i,hi⟩:=List.mem_iff_getElem?.1 hs;exact(hq i s hi).1
 have j:∀i s,(settle ss (dL (aG ss a+u) ((0::t)::S1) (aG ss a+hf ss) sz))[i]? =some s->Q i s :=
  rF Q _ _ f (fun w hw=>by
   obtain⟨h1,h2,h3,h4⟩:=hW w hw;exact⟨h3,fun e=>by omega,h4⟩)
 obtain⟨b,c⟩:=NX9 (settle ss (dL (aG ss a+u) ((0::t)::S1) (aG ss a+hf ss) sz))
 have hget:=Fq (sz:=sz) (ss:=ss) hle (by omega);rw[c]at j;simp only[c]at hget;have hn1:b.length=ss.length:=by rw[<-c,mQ]
 have hJ1:=g b hn1 j;have hp0:b[aG ss a+u]? =some (0::t):=by rw[hget,if_pos (by simp),Nat.sub_self];rfl
 have hpl:aG ss a+u<b.length:=by rw[hn1];omega
 have hJ2:Jn sz (b.set (aG ss a+u) (1::t)) a (rs++l) (u+ ((1::t)::S1).length):=by
  have hne:∀i,i≠aG ss a+u-> (b.set (aG ss a+u) (1::t))[i]? =b[i]? :=fun i hi=>List.getElem?_set_ne (Ne.symm hi);refine h.frame hS hk (by rw[List.length_set];exact hn1) ?_ ?_ ?_ ?_ ?_
  . intro s hs
    rcases List.mem_or_eq_of_mem_set hs with hs | rfl
    . exact hJ1.len s hs
    . exact ht
  . rw[hne 0 (by omega),hget,if_neg (by omega),if_neg (by omega)]
  . intro i hi
    rw[hne _ (by omega),hget,if_neg (by omega),if_neg (by simp only[Z4];omega)]
  . intro i hi
    by_cases e:i=0
    . subst e;rw[Nat.add_zero,List.getElem?_set_self hpl];rfl
    . rw[hne _ (by omega),hget,if_pos (by simp only[Z4]at hi ⊢;omega),show aG ss a+ (u+i) - (aG ss a+u)= (i - 1)+1 by omega,List.getElem?_cons_succ]
      rw[show i= (i - 1)+1 by omega,List.getElem?_cons_succ];rfl
  . intro s hlt hs
    rw[hne _ (by simp),hget,if_neg (by simp only[Z4]at hlt ⊢;omega),if_pos (by simp only[Z4]at hlt ⊢;omega)]at hs;cases hs;exact sQ sz
 have hset:dA sz b [(aG ss a+u,1::t)] ps=b∨dA sz b [(aG ss a+u,1::t)] ps=b.set (aG ss a+u) (1::t):=by
  have hg:b.getD (aG ss a+u) []=0::t:=by rw[List.getD_eq_getElem?_getD,hp0];rfl
  simp only[dA,hg,DD];split
  . left;exact EE hp0
  . right;rfl
 unfold fM at hp;rw[hfl]at hp;obtain⟨f1,f2,f3⟩:=oM (dL (aG ss a+u) ((0::t)::S1) (aG ss a+hf ss) sz) ⟨sz,ss,[],lf⟩;rw[List.nil_append]at f2;rcases D9 hp with ⟨t',h1⟩ | rfl | rfl | ⟨rfl,rfl⟩
 . obtain⟨V,rfl,hV⟩:=Gn h1
   obtain⟨g1,g2,g3⟩:=oM V ⟨sz,ss,[],lf⟩;rw[List.nil_append]at g2;refine⟨.inl ?_,fun e=>?_⟩
   . rw[g1,g2]
     refine g _ (mZ _ _ _) (su Q _ _ _ f (fun w hw s q hs=>?_));obtain⟨h1,h2,h3,h4⟩:=hW w (hV w hw);exact⟨yB h3 hs.1 q,fun e=>by omega,fun e=>Qe (by rw[h3];exact h.sz0) (h4 e) (hs.2.2 e) q⟩
   . subst e
     exfalso
     have h5:=congrArg List.length hp;have h6:=congrArg List.length h1;simp only[af,Z4,List.length_nil,List.length_map]at h5 h6;omega
 . rw[List.foldl_append]
   refine⟨.inl ?_,fun e=>?_⟩
   . simp only[List.foldl_cons,List.foldl_nil,doO,f1,f2,c,dA]
     exact hJ1
   . subst e
     have:=congrArg List.length hp;simp at this
 . rw[List.foldl_append]
   refine⟨?_,fun e=>?_⟩
   . simp only[List.foldl_cons,List.foldl_nil,doO,f1,f2,c,List.nil_append,List.headD_cons]
     rcases hset with e | e
     . rw[e];exact .inl hJ1
     . rw[e];exact .inr hJ2
   . subst e
     have:=congrArg List.length hp;simp at this
 . rw[List.foldl_append]
   simp only[List.foldl_cons,List.foldl_nil,doO,f1,f2,c,List.nil_append,List.headD_cons,dA,CE];exact⟨.inr hJ2,fun _=>⟨trivial,hJ2⟩⟩
theorem MF(h:Jn sz ss a rs u){S:List VD}(hS:SecF sz l S)(hk:S.length<=hf ss){lf:Int}{pre suf:List Dop}(hp:gB sz ss a S=pre++suf)(ps:List Int) :
  let d:=pre.foldl doO ⟨sz,ss,[],lf⟩
  (Jn sz (dA sz d.ss d.pn ps) a rs u∨Jn sz (dA sz d.ss d.pn ps) (3 - a) l S.length)/\ (suf= []->d.pn= []/\Jn sz d.ss (3 - a) l S.length):=by
 have hfit:=iO h.act h.n3;have hb:3 - a=1∨3 - a=2:=by rcases h.act with rfl | rfl <;> simp
 have hfb:=iO hb h.n3;have hSz:=hS.siz h.sz0;have hap:∀i,i<hf ss->aG ss a+i<aG ss (3 - a)∨aG ss (3 - a)+hf ss<=aG ss a+i:=by
  intro i hi;unfold aG;rcases h.act with rfl | rfl <;> simp <;> omega
 have hu:=h.u_le;obtain⟨p,hpp⟩:=NX9 (aG ss (3 - a))
 rw[hpp]at hap hfb;have hle:p+S.length<=p+hf ss:=by omega
 have hW:∀w∈dL p S (p+hf ss) sz,p<=w.1/\w.1<p+hf ss/\w.2.length=sz:=by
  intro w hw;obtain⟨h1,h2,h3⟩:=sU hle hw;refine⟨h1,h2,?_⟩;rcases h3 with h3 | ⟨_,h3⟩
  . exact hSz _ (Z7 h3)
  . rw[h3];exact iQ (by simp)
 let Q:Nat->VD->Prop:=fun i s=>s.length=sz/\ ((i<p∨p+hf ss<=i)->ss[i]? =some s)
 have g:∀i s,ss[i]? =some s->Q i s:=fun i s hs=>⟨h.len s (Z7 hs),fun _=>hs⟩
 have j:∀ss':List VD,ss'.length=ss.length-> (∀i s,ss'[i]? =some s->Q i s)->Jn sz ss' a rs u:=by
  intro ss' hn hq;have hsame:∀i,i<ss.length-> (i<p∨p+hf ss<=i)->ss'[i]? =ss[i]? :=by
   intro i hi hi2;have hl:i<ss'.length:=by rw[hn];exact hi
   have:=(hq i _ (Z5 hl)).2 hi2;rw[this,Z5 hl]
  refine h.keep hn (fun s hs=>?_) (hsame 0 (by omega) (by omega)) (fun i hi=>hsame _ (by omega) (hap i (by omega))) (fun s hlt hs=>?_)
  . obtain⟨i,hi⟩:=List.mem_iff_getElem?.1 hs
    exact(hq i s hi).1
  . rw[hsame _ (by omega) (hap u hlt)]at hs
    exact h.free hlt hs
 obtain⟨c,f⟩:=NX9 (settle ss (dL p S (p+hf ss) sz))
 have m:∀i s,c[i]? =some s->Q i s:=by
  rw[<-f];exact rF Q _ _ g (fun w hw=>by
   obtain⟨h1,h2,h3⟩:=hW w hw;exact⟨h3,fun e=>by omega⟩)
 have hget:=Fq (sz:=sz) (ss:=ss) hle (by omega);simp only[f]at hget;have hn1:c.length=ss.length:=by rw[<-f,mQ]
 have hJ1:=j c hn1 m;have hl0:0<c.length:=by rw[hn1];omega
 have hmk:∀b,(dF sz b).length=sz:=fun b=>iQ (by have:=h.sz0;simp;omega);have hJ2:Jn sz (c.set 0 (dF sz (3 - a))) (3 - a) l S.length:=by
  have e1:hf (c.set 0 (dF sz (3 - a)))=hf ss:=by unfold hf;rw[List.length_set,hn1]
  have e2:aG (c.set 0 (dF sz (3 - a))) (3 - a)=p:=by rw[<-hpp];unfold aG;rw[e1]
  have hne:∀i,i≠0-> (c.set 0 (dF sz (3 - a)))[i]? =c[i]? :=fun i hi=>List.getElem?_set_ne (Ne.symm hi);have hl:∀s∈c.set 0 (dF sz (3 - a)),s.length=sz:=by
   intro s hs;rcases List.mem_or_eq_of_mem_set hs with hs | rfl
   . exact hJ1.len s hs
   . exact hmk _
  refine⟨h.sz0,by rw[List.length_set,hn1];exact h.n3,hl,hb,List.getElem?_set_self hl0,?_⟩;show frs sz ((fB _ (3 - a)).flatten)=_;have hsp:=CV (ss':=c.set 0 (dF sz (3 - a))) (a:=3 - a) (S:=S) (k:=0) (by rw[e1];omega) (by
   intro i hi;rw[e2,hne _ (by omega),hget,if_pos (by omega)];congr 1;omega)
  rw[List.drop_zero,Nat.zero_add]at hsp;rw[hsp,List.flatten_append];exact hS.read h.sz0 (E8 h.sz0 hl (by
   intro s hlt hs;rw[e1]at hlt;rw[e2,hne _ (by omega),hget,if_neg (by omega),if_pos (by omega)]at hs;cases hs;exact sQ sz))
 have hset:dA sz c [(0,dF sz (3 - a))] ps=c∨dA sz c [(0,dF sz (3 - a))] ps=c.set 0 (dF sz (3 - a)):=by
  have hp0:=hJ1.mark;have hg:c.getD 0 []=dF sz a:=by rw[List.getD_eq_getElem?_getD,hp0];rfl
  simp only[dA,hg];rw[FQ]at hp0 ⊢;rw[FQ,DD];split
  . left;exact EE hp0
  . right;rfl
 unfold gB at hp;rw[hpp]at hp;obtain⟨f1,f2,f3⟩:=oM (dL p S (p+hf ss) sz) ⟨sz,ss,[],lf⟩;rw[List.nil_append]at f2;rcases D9 hp with ⟨t',h1⟩ | rfl | rfl | ⟨rfl,rfl⟩
 . obtain⟨V,rfl,hV⟩:=Gn h1
   obtain⟨g1,g2,g3⟩:=oM V ⟨sz,ss,[],lf⟩;rw[List.nil_append]at g2;refine⟨.inl ?_,fun e=>?_⟩
   . rw[g1,g2]
     refine j _ (mZ _ _ _) (su Q _ _ _ g (fun w hw s q hs=>?_));obtain⟨h1,h2,h3⟩:=hW w (hV w hw);exact⟨yB h3 hs.1 q,fun e=>by omega⟩
   . subst e
     exfalso
     have h5:=congrArg List.length hp;have h6:=congrArg List.length h1;simp only[af,Z4,List.length_nil,List.length_map]at h5 h6;omega
 . rw[List.foldl_append]
   refine⟨.inl ?_,fun e=>?_⟩
   . simp only[List.foldl_cons,List.foldl_nil,doO,f1,f2,f,dA]
     exact hJ1
   . subst e
     have:=congrArg List.length hp;simp at this
 . rw[List.foldl_append]
   refine⟨?_,fun e=>?_⟩
   . simp only[List.foldl_cons,List.foldl_nil,doO,f1,f2,f,List.nil_append]
     rcases hset with e | e
     . rw[e];exact .inl hJ1
     . rw[e];exact .inr hJ2
   . subst e
     have:=congrArg List.length hp;simp at this
 . rw[List.foldl_append]
   simp only[List.foldl_cons,List.foldl_nil,doO,f1,f2,f,List.nil_append,dA,CE];exact⟨.inr hJ2,fun _=>⟨trivial,hJ2⟩⟩
end
/-! ### disks that hold a journal -/
structure Dur(d:Dk)(rs:List VD):Prop where
 ok:d.Ok
 pn:d.pn= []
 jn:∃a u,Jn d.sz d.ss a rs u
structure Brk(d:Dk)(rs rs':List VD):Prop where
 ok:d.Ok
 lf:d.lf=0
 cut:∀ps,Dur (gJ d ps) rs∨Dur (gJ d ps) rs'
theorem EC{x:Int}(h:x<=9223372036854775807):fP x<=9223372036854775807:=by unfold fP;split <;> omega
theorem Fz{x:Int}(h: -1<=x): -1<=fP x:=by unfold fP;split <;> omega
def kH(d:Dk)(o:Dop):Prop:=∀w,o=some w->w.1<d.ss.length/\w.2.length=d.sz
theorem xJ(d:Dk)(o:Dop): (doO d o).sz=d.sz/\ (doO d o).ss.length=d.ss.length:=by
 cases o with
 | none=>exact⟨rfl,mQ _ _⟩
 | some w=>exact⟨rfl,rfl⟩
theorem Dk.Ok.doO{d:Dk}(h:d.Ok){o:Dop}(ho:kH d o): (Go.Proofs.YtknefelegjlgnaaGreatDoor.doO d o).Ok:=by
 cases o with
 | none =>
   refine⟨h.sz0,h.sz1,by show 0< (settle _ _).length;rw[mQ];exact h.n0,by show(settle _ _).length<=_;rw[mQ];exact h.n1,?_,(by intro w hw;cases hw),Fz h.lf,EC h.lm⟩;intro s hs;obtain⟨i,hi⟩:=List.mem_iff_getElem?.1 hs;exact rF (fun _ s=>s.length=d.sz) _ _ (fun i s hs=>h.len s (Z7 hs)) (fun w hw=>(h.pn w hw).2) i s hi
 | some w =>
   refine⟨h.sz0,h.sz1,h.n0,h.n1,h.len,?_,Fz h.lf,EC h.lm⟩;intro x hx;rcases List.mem_append.1 hx with hx | hx
   . exact h.pn x hx
   . rw[ae]at hx;subst hx;exact ho x rfl
theorem uu:∀(os:List Dop)(d:Dk),d.Ok-> (∀o∈os,kH d o)-> (os.foldl doO d).Ok/\ (os.foldl doO d).sz=d.sz/\ (os.foldl doO d).ss.length=d.ss.length
 | [],d,h,_=>⟨h,rfl,rfl⟩
 | o::os,d,h,ho=>by
   obtain⟨k1,k2⟩:=xJ d o;obtain⟨h1,h2,h3⟩:=uu os _ (h.doO (ho o (by simp))) (fun x hx w hw=>by rw[k1,k2];exact ho x (by simp[hx]) w hw);exact⟨h1,h2.trans k1,h3.trans k2⟩
theorem Dk.Ok.cut{d:Dk}(h:d.Ok)(ps:List Int): (gJ d ps).Ok:=by
 refine⟨h.sz0,h.sz1,by show 0< (dA _ _ _ _).length;rw[mZ];exact h.n0,by show(dA _ _ _ _).length<=_;rw[mZ];exact h.n1,?_,(by intro w hw;cases hw),by show(-1:Int)<= -1;omega,by show(-1:Int)<=_;omega⟩;intro s hs;obtain⟨i,hi⟩:=List.mem_iff_getElem?.1 hs;exact su (fun _ s=>s.length=d.sz) _ _ _ (fun i s hs=>h.len s (Z7 hs)) (fun w hw s q hq=>yB (h.pn w hw).2 hq q) i s hi
theorem Dur.cut{d:Dk}{rs:List VD}(h:Dur d rs)(ps:List Int):Dur (gJ d ps) rs:=by
 refine⟨h.ok.cut ps,rfl,?_⟩;show ∃a u,Jn d.sz (dA d.sz d.ss d.pn ps) a rs u;rw[h.pn];exact h.jn
theorem Hg{d:Dk}{rs rs':List VD}(h:Dur d rs)(os:List Dop)(hf:∀o∈os,kH d o)
  (hs:∀pre suf ps,os=pre++suf->let e:=pre.foldl doO ⟨d.sz,d.ss,[],d.lf⟩
    ((∃a u,Jn d.sz (dA d.sz e.ss e.pn ps) a rs u)∨ (∃a u,Jn d.sz (dA d.sz e.ss e.pn ps) a rs' u))/\ (suf= []->e.pn= []/\∃a u,Jn d.sz e.ss a rs' u)) :
  ((aJ d os).2=0/\Dur (aJ d os).1 rs')∨ ((aJ d os).2=20/\Brk (aJ d os).1 rs rs'):=by
 obtain⟨pre,suf,h1,h2,h3⟩:=pg os d;have hd:d= ⟨d.sz,d.ss,[],d.lf⟩:=by rw[<-h.pn]
 obtain⟨k1,k2,k3⟩:=uu pre d h.ok (fun o ho=>hf o (by rw[h1];exact List.mem_append_left _ ho));rcases h3 with ⟨e,h3⟩ | ⟨h3,h4⟩
 . left
   refine⟨h3,?_⟩;have:=(hs pre suf [] h1).2 e;simp only[<-hd]at this;rw[h2];exact⟨k1,this.1,by rw[k2];exact this.2⟩
 . right
   refine⟨h3,?_⟩;rw[h2]at h4 ⊢;refine⟨k1,h4,fun ps=>?_⟩;have:=(hs pre suf ps h1).1;simp only[<-hd]at this;rw[<-k2]at this;rcases this with h | h
   . exact .inl ⟨k1.cut ps,rfl,h⟩
   . exact .inr ⟨k1.cut ps,rfl,h⟩
theorem GM{d:Dk}{W:List (Nat×VD)}{x:Nat×VD}(hW:∀w∈W,w.1<d.ss.length/\w.2.length=d.sz)(hx:x.1<d.ss.length/\x.2.length=d.sz):∀o∈W.map some++ [none,some x,none],kH d o:=by
 intro o ho w hw;subst hw;rcases List.mem_append.1 ho with ho | ho
 . obtain⟨y,hy,e⟩:=List.mem_map.1 ho
   cases e;exact hW _ hy
 . simp only[List.mem_cons,reduceCtorEq,Option.some.injEq,List.not_mem_nil,or_false,false_or]at ho
   subst ho;exact hx
theorem yG{d:Dk}{rs l S:List VD}{a u:Nat}(hj:Jn d.sz d.ss a rs u)(hS:SecF d.sz l S)(hk:S.length<=hf d.ss - u):u+S.length<=hf d.ss/\∀o∈fM d.sz d.ss a u S,kH d o:=by
 have hu:=hj.u_le;have hfit:=iO hj.act hj.n3;obtain⟨t,S1,e,ht⟩:=hS.cons hj.sz0;have hk':u+S.length<=hf d.ss:=by rw[e,Z4]at hk ⊢;omega
 have hsz:=hS.siz hj.sz0;have hlen: (jw S).length=S.length:=by rw[e];rfl
 refine⟨hk',GM (fun w hw=>?_) ⟨?_,?_⟩⟩
 . obtain⟨h1,h2,h3⟩:=sU (by rw[hlen];omega) hw
   refine⟨by omega,?_⟩;rcases h3 with h3 | ⟨_,h3⟩
   . have:=Z7 h3
     rw[e]at this hsz;rcases List.mem_cons.1 this with e | e
     . rw[e];simpa using ht
     . exact hsz _ (by simp[e])
   . rw[h3];exact iQ (by simp)
 . rw[e,Z4]at hk';show aG d.ss a+u<_;omega
 . rw[e];exact ht
theorem Tj{d:Dk}{rs l S:List VD}{a u:Nat}(h:Dur d rs)(hj:Jn d.sz d.ss a rs u)(hS:SecF d.sz l S)(hk:S.length<=hf d.ss - u) :
  ((aJ d (fM d.sz d.ss a u S)).2=0/\Dur (aJ d (fM d.sz d.ss a u S)).1 (rs++l))∨ ((aJ d (fM d.sz d.ss a u S)).2=20/\Brk (aJ d (fM d.sz d.ss a u S)).1 rs (rs++l)):=by
 obtain⟨hk',hf⟩:=yG hj hS hk;refine Hg h _ hf (fun pre suf ps hp=>?_);obtain⟨h1,h2⟩:=Cb (lf:=d.lf) hj hS hk' hp ps;exact⟨h1.imp (fun h=>⟨_,_,h⟩) (fun h=>⟨_,_,h⟩),fun e=>⟨(h2 e).1,_,_,(h2 e).2⟩⟩
theorem Gq{d:Dk}{rs l S:List VD}{a u:Nat}(hd:d.Ok)(hj:Jn d.sz d.ss a rs u)(hS:SecF d.sz l S)(hk:S.length<=hf d.ss):∀o∈gB d.sz d.ss a S,kH d o:=by
 have hb:3 - a=1∨3 - a=2:=by rcases hj.act with rfl | rfl <;> simp
 have hfb:=iO hb hj.n3;have hsz:=hS.siz hj.sz0;refine GM (fun w hw=>?_) ⟨?_,?_⟩
 . obtain⟨h1,h2,h3⟩:=sU (by omega) hw
   refine⟨by omega,?_⟩;rcases h3 with h3 | ⟨_,h3⟩
   . exact hsz _ (Z7 h3)
   . rw[h3];exact iQ (by simp)
 . exact hd.n0
 . exact iQ (by have:=hj.sz0;simp;omega)
theorem RN{d:Dk}{rs l S:List VD}{a u:Nat}(h:Dur d rs)(hj:Jn d.sz d.ss a rs u)(hS:SecF d.sz l S)(hk:S.length<=hf d.ss) :
  ((aJ d (gB d.sz d.ss a S)).2=0/\Dur (aJ d (gB d.sz d.ss a S)).1 l)∨ ((aJ d (gB d.sz d.ss a S)).2=20/\Brk (aJ d (gB d.sz d.ss a S)).1 rs l):=by
 refine Hg h _ (Gq h.ok hj hS hk) (fun pre suf ps hp=>?_);obtain⟨h1,h2⟩:=MF (lf:=d.lf) hj hS hk hp ps;exact⟨h1.imp (fun h=>⟨_,_,h⟩) (fun h=>⟨_,_,h⟩),fun e=>⟨(h2 e).1,_,_,(h2 e).2⟩⟩
/-! ### formatting -/
def bW(sz:Nat)(ss:List VD):List Dop:= [some (aG ss 1,bK sz []),some (aG ss 2,bK sz []),none,some (0,dF sz 1),none]
theorem Gl{d:Dk}(hd:d.Ok)(hn:3<=d.ss.length)(hp:d.pn= [])(hl:d.lf= -1): (aJ d (bW d.sz d.ss)).2=0/\Dur (aJ d (bW d.sz d.ss)).1 []/\ (aJ d (bW d.sz d.ss)).1.lf= -1/\Jn (aJ d (bW d.sz d.ss)).1.sz (aJ d (bW d.sz d.ss)).1.ss 1 [] 0:=by
 obtain⟨h1,h2⟩:=rW (bW d.sz d.ss) d hl;rw[h1];have f1:=iO (ss:=d.ss) (.inl rfl) hn;have f2:=iO (ss:=d.ss) (.inr rfl) hn;have hz: (bK d.sz []).length=d.sz:=iQ (by simp);have hm: (dF d.sz 1).length=d.sz:=iQ (by have:=hd.sz0;simp;omega);obtain⟨k1,k2,k3⟩:=uu (bW d.sz d.ss) d hd (by
  intro o ho w hw;subst hw;simp only[bW,List.mem_cons,reduceCtorEq,Option.some.injEq,List.not_mem_nil,or_false,false_or]at ho;rcases ho with rfl | rfl | rfl
  . exact⟨by show aG d.ss 1<_;omega,hz⟩
  . exact⟨by show aG d.ss 2<_;omega,hz⟩
  . exact⟨hd.n0,hm⟩)
 suffices hJ:Jn ((bW d.sz d.ss).foldl doO d).sz ((bW d.sz d.ss).foldl doO d).ss 1 [] 0 from⟨rfl,⟨k1,rfl,1,0,hJ⟩,h2,hJ⟩
 obtain⟨e,he⟩:=NX9 (((bW d.sz d.ss).foldl doO d))
 have hss:e.ss= ((d.ss.set (aG d.ss 1) (bK d.sz [])).set (aG d.ss 2) (bK d.sz [])).set 0 (dF d.sz 1):=by
  rw[<-he];simp[bW,doO,hp,settle]
 rw[he]at k1 k2 k3 ⊢;have e1:hf e.ss=hf d.ss:=by unfold hf;rw[k3]
 have e2:aG e.ss 1=aG d.ss 1:=by unfold aG;rw[e1]
 show Jn e.sz e.ss 1 [] 0;refine⟨k1.sz0,by omega,k1.len,.inl rfl,?_,?_⟩
 . rw[hss,k2,List.getElem?_set_self (by simp only[List.length_set];omega)]
 . refine kW (xE k1.sz0 (jJ k1.len) (fun s hs=>?_))
   replace hs: (fB e.ss 1)[0]? =some s:=hs
   rw[lH,e1,e2,if_pos (by omega),Nat.add_zero,hss,List.getElem?_set_ne (by omega),List.getElem?_set,List.getElem?_set_self (by omega)]at hs;split at hs
   . split at hs
     . cases hs;exact sQ _
     . cases hs
   . cases hs;exact sQ _
section
open Go.Maps
def jl(v:VC):Option (DataW VC×List MemPlace):=some (.held v,[])
theorem tK{v u:VC}{ps:List MemPlace}(h:jl v=some (.held u,ps)):v=u:=by
 simp[jl]at h;exact h.1
def Rm(w:VA)(P:Program)(k:TypeId)(b N:Nat)(g:VB->Option VC):Prop :=
 ∃D:DataW VC,w.ownsMap P k jl b N D/\∀s:VB,Maps.has D (.string s.data.toList)= (g s).isSome/\∀z,D.atKey (.string s.data.toList) (.held z)= .held ((g s).getD z)
def upd(g:VB->Option VC)(s:VB)(v:VC):VB->Option VC:=fun t=>if t=s then some v else g t
theorem Ql(g:VB->Option VC)(s:VB)(v:VC):upd g s v s=some v:=by simp[upd]
theorem Ol(g:VB->Option VC){s t:VB}(v:VC)(h:t≠s):upd g s v t=g t:=by simp[upd,h]
section
variable {w w' : VA} {P : Program} {k t e : TypeId} {b N : Nat} {g : VB -> Option VC}
theorem Rm.made(w:VA)(P:Program)(k:TypeId):Rm (w.alloc (.map #[] 0)) P k w.heap.size 0 (fun _=>none) :=
 ⟨.map [],World.ownsMap_made w P k jl,fun _=>⟨rfl,fun _=>rfl⟩⟩
theorem Rm.lt(h:Rm w P k b N g):b<w.heap.size:=h.choose_spec.1.lt
theorem Rm.more(h:Rm w P k b N g){M:Nat}(hm:N<=M):Rm w P k b M g:=by
 obtain⟨D,h1,h2⟩:=h;exact⟨D,h1.mono hm,h2⟩
theorem Rm.kept{row:Option Nat}(h:Rm w P k b N g)(hg:w.grownBy w' row)(hr:some b≠row):Rm w' P k b N g:=by
 obtain⟨D,h1,h2⟩:=h;exact⟨D,h1.kept hg hr,h2⟩
theorem Rm.below{B:Nat}(h:Rm w P k b N g)(hb:Below B w w')(hB:b<B):Rm w' P k b N g:=by
 obtain⟨D,⟨es,clock,h1,h2⟩,h3⟩:=h;exact⟨D,⟨es,clock,(hb.block b hB).trans h1,h2⟩,h3⟩
theorem Rm.alloc(h:Rm w P k b N g)(o:Obj):Rm (w.alloc o) P k b N g:=h.kept (World.grownBy_alloc w o none) (by simp)
theorem qj(hk:P.underlying k=some .string){s:VB}(hs:s.size<=maxLen):keyOf P k (.string s)=some (.string s.data.toList):=by simp[keyOf,hk,mapKey];exact hs
theorem Rm.look(h:Rm w P k b N g)(hk:P.underlying k=some .string)(ht:P.underlying t=some (.map k e)){z:VC}(hz: (zeroValue e).run P w= .ok z w){s:VB}(hs:s.size<=maxLen) :
  (Instr.lookup t (.map (some b)) (.string s) false).run P w= .ok ((g s).getD z) w:=by
 obtain⟨D,h1,h2⟩:=h;obtain⟨v,ps,hrun,hv⟩:=h1.lookup (string_keyed hk) ht hz (zd:= .held z) (zp:= []) rfl (qj hk hs);rw[(h2 s).2 z]at hv;rw[hrun,tK hv]
theorem Rm.look_ok(h:Rm w P k b N g)(hk:P.underlying k=some .string)(ht:P.underlying t=some (.map k e)){z:VC}(hz: (zeroValue e).run P w= .ok z w){s:VB}(hs:s.size<=maxLen) :
  (Instr.lookup t (.map (some b)) (.string s) true).run P w= .ok (.tuple #[(g s).getD z,.bool (g s).isSome]) w:=by
 obtain⟨D,h1,h2⟩:=h;obtain⟨v,ps,hrun,hv⟩:=h1.look_ok (string_keyed hk) ht hz (zd:= .held z) (zp:= []) rfl (qj hk hs);rw[(h2 s).2 z]at hv;rw[hrun,tK hv,(h2 s).1]
theorem lit_ne{s r:VB}(h:r≠s): (Lit.string r.data.toList)≠ .string s.data.toList:=fun e=>h (iR (by injection e))
theorem Rm.put(h:Rm w P k b N g)(hk:P.underlying k=some .string)(ht:P.underlying t=some (.map k e))(hn:N<maxLen){s:VB}(hs:s.size<=maxLen)(v:VC) :
  ∃w',(Instr.mapUpdate t (.map (some b)) (.string s) v).run P w= .ok () w'/\Rm w' P k b (N+1) (upd g s v)/\w.grownBy w' (some b):=by
 obtain⟨D,h1,h2⟩:=h;obtain⟨w',hrun,ho,hg⟩:=h1.update (string_keyed hk) ht hn (qj hk hs) (d:= .held v) (ps:= []) rfl;refine⟨w',hrun,⟨_,ho,fun r=>?_⟩,hg⟩;have hkl:=(string_keyed hk).key (qj hk hs);by_cases hr:r=s
 . subst hr
   rw[Ql,has_put_same h1.isMap hkl];exact⟨rfl,fun z=>atKey_put_same h1.isMap hkl _ _⟩
 . rw[Ol _ _ hr,has_put_other (lit_ne hr)]
   exact⟨(h2 r).1,fun z=>(atKey_put_other (lit_ne hr) _ _).trans ((h2 r).2 z)⟩
theorem oH{ops:Array Oper}{rest:List Oper}{o:Oper}{a:Act}{Q:Exit->Act->VA->Prop}(hgd:o.guard=none)(m x y:Operand)(t:TypeId)(hop:o.op=Op.mapUpdate t m x y)
  (k e:TypeId) (hk:P.underlying k=some .string) (ht:P.underlying t=some (.map k e)) (b N:Nat) (g:VB->Option VC) (hm:a.eval m= .map (some b)) (h:Rm w P k b N g) (hn:N<maxLen)
  (s:VB) (hs:s.size<=maxLen) (v:VC) (hx:a.eval x= .string s) (hy:a.eval y=v)
  (hK:∀w',Rm w' P k b (N+1) (upd g s v)->w.grownBy w' (some b)->wpList P ops Q rest (a.put o.dst undef) w'):wpList P ops Q (o::rest) a w:=by
 refine wpList_plain hgd fun K' hK'=>?_;obtain⟨w',hrun,r1,r2⟩:=h.put hk ht hn hs v;unfold Oper.wp;simp[execOp,hop,hm,hx,hy,hrun,Result.andThen];exact hK' _ _ (hK w' r1 r2)
/-! ### ranging -/
variable {r cnt : Nat} {left : VB -> Bool}
end
end
section
open Go.Maps
def rmv(g:VB->Option VC)(s:VB):VB->Option VC:=fun t=>if t=s then none else g t
theorem Rm.del{w:VA}{P:Program}{k t e:TypeId}{b N:Nat}{g:VB->Option VC}(h:Rm w P k b N g)(hk:P.underlying k=some .string)(ht:P.underlying t=some (.map k e)){s:VB}(hs:s.size<=maxLen)(ty:TypeId) :
  ∃w',(Builtin.delete_ #[t,k] ty #[.map (some b),.string s]).run P w= .ok (.tuple #[]) w'/\Rm w' P k b N (rmv g s)/\w.grownBy w' (some b):=by
 obtain⟨D,h1,h2⟩:=h;obtain⟨w',hrun,ho,hg⟩:=h1.drop (string_keyed hk) ht (qj hk hs) ty;refine⟨w',hrun,⟨_,ho,fun r=>?_⟩,hg.grown⟩;unfold rmv;by_cases hr:r=s
 . subst hr
   rw[if_pos rfl];exact⟨has_del_same,fun z=>atKey_del_same _⟩
 . rw[if_neg hr]
   exact⟨(has_del_other (lit_ne hr)).trans (h2 r).1,fun z=>(atKey_del_other (lit_ne hr) _).trans ((h2 r).2 z)⟩
theorem JY{P:Program}{w:VA}{ops:Array Oper}{rest:List Oper}{o:Oper}{a:Act}{Q:Exit->Act->VA->Prop}(hgd:o.guard=none)(m x:Operand)(t k:TypeId)(hop:o.op=Op.call {callee:=Callee.builtin Builtin.delete,args:=#[m,x],argTypes:=#[t,k]})
  (e:TypeId) (hk:P.underlying k=some .string) (ht:P.underlying t=some (.map k e)) (b N:Nat) (g:VB->Option VC) (hm:a.eval m= .map (some b)) (h:Rm w P k b N g)
  (s:VB) (hs:s.size<=maxLen) (hx:a.eval x= .string s)
  (hK:∀w',Rm w' P k b N (rmv g s)->w.grownBy w' (some b)->wpList P ops Q rest (a.put o.dst (.tuple #[])) w'):wpList P ops Q (o::rest) a w:=by
 refine wpList_plain hgd fun K' hK'=>?_;obtain⟨w',hrun,r1,r2⟩:=h.del hk ht hs o.type;unfold Oper.wp;simp[execOp,hop,resolve,invoke,builtin,hm,hx,hrun,Result.andThen];exact hK' _ _ (hK w' r1 r2)
end
def uX(c:Int):Bool:=((decide (97<=c) && decide (c<=122)) || ((decide (65<=c) && decide (c<=90)) || (decide (48<=c) && decide (c<=57)))) || (decide (c=46) || (decide (c=95) || decide (c=45)))
def mr(c:UInt8):Bool:=uX (c.toNat:Int)
def iV(l:List UInt8):Bool:=decide (1<=l.length) && (decide (l.length<=24) && (!(decide (l= [46])) && (!(decide (l= [46,46])) && l.all mr)))
def nameB(s:VB):Bool:=iV (bl s)
theorem Lj(c:Int)(w:VA):Calls Tryz.prog 259 #[.int .u8 c] w fun e w'=>e= .returned (.bool (uX c))/\w=w':=by
 go_enter Tryz.func259,Tryz.ntmps259
 go_wp2
 all_goals (go_ret;refine⟨bF ?_,rfl⟩;rw[Bool.eq_iff_iff];simp[uX];try omega)
def AllTo(l:List UInt8)(k:Nat):Prop:=∀j c,j<k->l[j]? =some c->mr c=true
theorem AllTo.step{l:List UInt8}{k:Nat}{c:UInt8}(h:AllTo l k)(hc:l[k]? =some c)(ho:mr c=true):AllTo l (k+1):=fun j x hj hx=>by
 by_cases e:j=k
 . subst e;rw[hc]at hx;cases hx;exact ho
 . exact h j x (by omega) hx
theorem AllTo.all{l:List UInt8}(h:AllTo l l.length):l.all mr=true:=by
 rw[List.all_eq_true];intro c hc;obtain⟨j,hj,e⟩:=List.getElem_of_mem hc;exact h j c hj (by rw[<-e];exact Z5 _)
theorem jG(s:VB)(w:VA)(hs:s.size<=maxLen):Calls Tryz.prog 195 #[.string s] w fun e w'=>e= .returned (.bool (nameB s))/\w=w':=by
 unfold maxLen at hs;have HL:=ai (jb s)
 go_enter Tryz.func195,Tryz.ntmps195
 have hno:∀b:Bool,nameB s=b->Hid (nameB s=b):=fun b h=>h;have hls: (bl s).length=s.size:=(jb s).symm;by_cases c1: (s.size:Int)<1
 . have hv:=hno false (by unfold nameB iV;rw[decide_eq_false (by omega),Bool.false_and])
   clear hno hls;go_wp2_with fail;go_ret
   exact⟨bF hv.o.symm,rfl⟩
 by_cases c2: (24:Int)< (s.size:Int)
 . have hv:=hno false (by unfold nameB iV;rw[decide_eq_false (p:=(bl s).length<=24) (by omega)];simp)
   clear hno hls;go_wp2_with fail;go_ret
   exact⟨bF hv.o.symm,rfl⟩
 have h3: (s.toList == [46])=decide (bl s= [46]):=by rw[ByteArray.toList_eq];unfold bl;rw[Bool.eq_iff_iff];simp
 have h4: (s.toList == [46,46])=decide (bl s= [46,46]):=by rw[ByteArray.toList_eq];unfold bl;rw[Bool.eq_iff_iff];simp
 by_cases c3:bl s= [46]
 . have hv:=hno false (by unfold nameB iV;rw[decide_eq_true c3];simp)
   rw[decide_eq_true c3]at h3;clear hno hls h4 c3;go_wp2_with fail;go_ret
   exact⟨bF hv.o.symm,rfl⟩
 rw[decide_eq_false c3]at h3;by_cases c4:bl s= [46,46]
 . have hv:=hno false (by unfold nameB iV;rw[decide_eq_true c4];simp)
   rw[decide_eq_true c4]at h4;clear hno hls c4 c3;go_wp2_with fail;go_ret
   exact⟨bF hv.o.symm,rfl⟩
 rw[decide_eq_false c4]at h4;have HV:Hid (nameB s= (bl s).all mr):=by
  show _=_;unfold nameB iV;rw[decide_eq_true (p:=1<= (bl s).length) (by omega),decide_eq_true (p:=(bl s).length<=24) (by omega),decide_eq_false c3,decide_eq_false c4];simp
 have d:=ai hls;clear hno c3 c4 hls;go_wp2_with fail
 go_loop[22] (fun i=>∃k:Nat,k<=s.size/\i= .int .i64 k/\Hid (AllTo (bl s) k)) (fun i=>s.size - (intOf i).toNat)
 case atStart=>exact⟨0,ZX _,rfl,fun j c h=>absurd h (by omega)⟩
 case round =>
  obtain⟨k,hk,rfl,hA⟩:=hrel;by_cases hlt:k<s.size
  . have hkz: (k:Int)< (s.size:Int):=by omega
    have HG:=ai (EU s k hlt);have a:=ai (Lj (s[k].toNat:Int));cases hv:uX (s[k].toNat:Int) with
    | true =>
      have HA2:Hid (AllTo (bl s) (k+1)):=hA.o.step HG.o hv;rw[hv]at a;clear hv hA
      go_wp2_with (go_at_call 259;refine(a.o _).mono ?_;rintro e w' ⟨rfl,rfl⟩)
      go_round
      case rel=>exact⟨k+1,hlt,by go_num,HA2.o⟩
      case measure=>simp[intOf];omega
    | false =>
      have HF:Hid (nameB s=false):=by
       show _=_;rw[HV.o,List.all_eq_false];exact⟨s[k],Z7 HG.o,by unfold mr;rw[hv];simp⟩
      rw[hv]at a;clear hv hA
      go_wp2_with (go_at_call 259;refine(a.o _).mono ?_;rintro e w' ⟨rfl,rfl⟩)
      go_ret
      exact⟨bF HF.o.symm,rfl⟩
  . have hkz:¬(k:Int)< (s.size:Int):=by omega
    have HT:Hid (nameB s=true):=by
     show _=_;rw[HV.o];refine AllTo.all ?_;have:=hA.o
     rwa[show k= (bl s).length from by rw[d.o];omega]at this
    clear hA;go_wp2_with fail;go_ret
    exact⟨bF HT.o.symm,rfl⟩
section
open Go.RowKit Go.Shelf
attribute [local go_sem] Oper.semAt_some
def dh(s:VB):Bool:=decide ((bl s).length<=100) && (bI (bl s)).all iV
theorem wG{w:VA}{a:Array VC}{r:Nat}{x:Bool}(ha:a[2]?.getD undef= .pointer (some ⟨r,0,none⟩))(h:w.heap[r]? =some (.cells #[.bool x] 4 (0,0))) :
  (results Tryz.f196 a).run Tryz.prog w= .ok (.bool x) w:=by
 have hc:=cell_of_one h;simp[results,Tryz.results196,ha,go_sem,hc]
theorem MS(s:VB)(w:VA)(hs:s.size<=maxLen) :
  Calls Tryz.prog 196 #[.string s] w fun e w'=>e= .returned (.bool (dh s))/\VE w w':=by
 refine(callsIn_wide (n:=6)).1 ?_;unfold maxLen at hs;have HL:=ai (jb s);have a:Fence.wide.fn 194:=trivial;have b:Fence.wide.fn 195:=trivial;refine callsIn_of_wp_marks Tryz.func196 rfl trivial ?_ rfl;simp only[Tryz.ntmps196,List.size_toArray,Z4,List.length_nil,Nat.reduceAdd,Nat.reduceSub,Array.replicate_succ,Array.replicate_zero,List.push_toArray,List.append_toArray,List.nil_append,List.cons_append];by_cases c1:100< (s.size:Int)
 . have hv:Hid (dh s=false):=by
     show _=_;have:=HL.o;unfold dh bl;rw[decide_eq_false (by omega),Bool.false_and]
   gi_wp2_with fail
   refine⟨_,wG rfl (World.alloc_heap_new w _),?_⟩;exact⟨bF hv.o.symm,(ah _ _).alloc aj _⟩
 have c1': (s.size:Int)<=100:=by omega
 have HN:Hid (dh s= (bI (bl s)).all iV):=by
  show _=_;have:=HL.o;unfold dh;rw[decide_eq_true (by unfold bl;omega),Bool.true_and]
 gi_wp2_with (gi_at_call 194;refine(callsIn_wide.2 (Bh _ _)).mono ?_;rintro e w' ⟨rfl,rfl⟩)
 obtain⟨W0,hW0⟩:=NX9 ((((w.alloc (.cells #[.bool false] 4)).alloc (.cells #[.string s] 9)).alloc (.cells #[.string ⟨#[47]⟩] 9)).alloc (.cells #[.int .i64 0] 3))
 have hz:W0.heap.size=w.heap.size+4:=by rw[<-hW0];simp
 have g0:W0.heap[w.heap.size]? =some (.cells #[.bool false] 4 (0,0)):=by
  rw[<-hW0];exact(Below.heap_alloc _ _ _ (by simp;omega)).trans ((Below.heap_alloc _ _ _ (by simp;omega)).trans ((Below.heap_alloc _ _ _ (by simp)).trans (World.alloc_heap_new w _)))
 have g1:W0.heap[w.heap.size+1]? =some (.cells #[.string s] 9 (0,0)):=by
  rw[<-hW0];refine(Below.heap_alloc _ _ _ (by simp)).trans ((Below.heap_alloc _ _ _ (by simp)).trans ?_);have:=World.alloc_heap_new (w.alloc (.cells #[.bool false] 4)) (.cells #[.string s] 9);rwa[Z9]at this
 have g2:W0.heap[w.heap.size+1+1]? =some (.cells #[.string ⟨#[47]⟩] 9 (0,0)):=by
  rw[<-hW0];refine(Below.heap_alloc _ _ _ (by simp)).trans ?_;have:=World.alloc_heap_new ((w.alloc (.cells #[.bool false] 4)).alloc (.cells #[.string s] 9)) (.cells #[.string ⟨#[47]⟩] 9);rwa[Z9,Z9]at this
 have g3:W0.heap[w.heap.size+1+2]? =some (.cells #[.int .i64 0] 3 (0,0)):=by
  rw[<-hW0];have:=World.alloc_heap_new (((w.alloc (.cells #[.bool false] 4)).alloc (.cells #[.string s] 9)).alloc (.cells #[.string ⟨#[47]⟩] 9)) (.cells #[.int .i64 0] 3);rwa[Z9,Z9,Z9]at this
 have hb0:VE w W0:=by
  rw[<-hW0];exact((((ah _ w).alloc aj _).alloc (by simp) _).alloc (by simp;omega) _).alloc (by simp;omega) _
 rw[hW0];refine vS (F:=Fence.wide) (n:=6) rfl (by omega) (gf:=297) (lb:=#[.pointer (some ⟨w.heap.size+1+1,0,none⟩),.pointer (some ⟨w.heap.size+1,0,none⟩),.pointer (some ⟨w.heap.size+1+2,0,none⟩)]) rfl trivial (enters_of Tryz.func297 (by kernel_rfl) rfl)
  (DL 5 (w.heap.size+1) (by omega) s W0 (by omega) (by omega) g1 g2 g3) GN (fun W l o hl=>DZ (m:=w.heap.size+4) (by omega) W l o (by omega)) (CU) (ah _ _) (fun _=>rfl)
  (fun pre W=>W.heap[w.heap.size]? =some (.cells #[.bool false] 4 (0,0))/\Hid (∀x∈pre,nameB x=true)/\VE w W/\w.heap.size+4<=W.heap.size)
  (fun c pre W=>c= .ret/\W.heap[w.heap.size]? =some (.cells #[.bool false] 4 (0,0))/\Hid (∃x∈pre,nameB x=false)/\VE w W)
  ?hI ?hIx ?hIS ⟨g0,by simp[Hid],hb0,by omega⟩ ?a1 ?assign ?body ?done ?stop
 case assign =>
  intro l x W K hK;have HKK:=ai hK;clear hK
  gi_wp2
  exact HKK.o
 case hI =>
  rintro pre A B row ⟨h1,h2,h3,h4⟩ hg hr;refine⟨rP h1 hg (fun e=>?_),h2,h3.grown hg h3.size (fun k e=>?_),ZY h4 hg.size⟩
  . have:=(hr _ e.symm).1;omega
  . have:=(hr _ e).1;omega
 case hIx =>
  rintro c pre A B row ⟨h0,h1,h2,h3⟩ hg hr;refine⟨h0,rP h1 hg (fun e=>?_),h2,h3.grown hg h3.size (fun k e=>?_)⟩
  . have:=(hr _ e.symm).1;omega
  . have:=(hr _ e).1;omega
 case hIS =>
  rintro pre A B ⟨h1,h2,h3,h4⟩ ⟨v,rfl⟩;exact⟨(Z8 _ _ _ _ (by simp)).trans h1,h2,h3.setCell (p:=⟨w.heap.size+1,0,none⟩) (by simp) _,by simpa [World.setCell] using h4⟩
 case body =>
  rintro l pre x W ⟨r,hr⟩ ⟨h1,h2,h3,h4⟩;have hxs:x.size<=maxLen:=by
   have hm:bl x∈bI (bl s):=by rw[<-hr];simp
   have h5:=oQ (bl s) _ hm;have h6:=jb x;have h7:=HL.o;unfold bl at h5;unfold maxLen;omega
  have c0:=cell_of_one h1;have f0:=free_of_one h1;have H1:=ai h1;have H3:=ai h3;clear h1 h3 g0 g1 g2 g3 hb0 hW0 hr;cases hv:nameB x with
  | true =>
    have HV:=ai hv;clear hv
    gi_wp2_with (gi_at_call 195;refine(CallsIn.inRound l (callsIn_wide.2 (jG x _ hxs))).mono ?_;rintro e w' ⟨rfl,rfl⟩;rw[HV.o])
    refine⟨⟨Nat.le_refl _,fun k o hk _=>hk⟩,fun k h5 h6=>rfl,H1.o,?_,H3.o,h4⟩;intro y hy;rcases List.mem_append.1 hy with h | h
    . exact h2.o y h
    . simp at h;subst h;exact HV.o
  | false =>
    have HV:=ai hv;clear hv
    gi_wp2_with (gi_at_call 195;refine(CallsIn.inRound l (callsIn_wide.2 (jG x _ hxs))).mono ?_;rintro e w' ⟨rfl,rfl⟩;rw[HV.o])
    exact⟨KeepsOthers.setCell _ _ _,rfl,one_setCell H1.o,⟨x,by simp,HV.o⟩,H3.o.setCell (p:=⟨w.heap.size,0,none⟩) aj _⟩
 case done =>
  rintro D xs W hD hS ⟨h1,h2,h3,h4⟩ hK;have c0:=cell_of_one h1;have f0:=free_of_one h1;have H1:=ai h1;have H3:=ai h3;have HK:=ai hK;have HS:=ai hS;clear h1 h3 hK hS
  gi_wp2
  have hK2:=(KeepsOthers.setCell W ⟨w.heap.size,0,none⟩ (.bool true)).same D _ HK.o rfl;refine⟨by simp,.inl ⟨_,_,rfl,run_takeDeferred hK2,?_⟩⟩;refine⟨_,wG rfl ((World.putObj_heap_other (by omega)).trans (one_setCell H1.o)),bF ?_,?_⟩
  . rw[HN.o]
    symm
    rw[List.all_eq_true];intro y hy;have hy':y∈xs.map bl:=by rw[HS.o];exact hy
    obtain⟨x,hx,rfl⟩:=List.mem_map.1 hy';exact h2.o x hx
  . exact(H3.o.setCell (p:=⟨w.heap.size,0,none⟩) aj _).grown (grownBy_putObj' _ _ _) ((H3.o.setCell (p:=⟨w.heap.size,0,none⟩) aj _).size) (fun k e=>by cases e;omega)
 case stop =>
  rintro D c pre W hD hS ⟨rfl,h1,h2,h3⟩ hK;have H1:=ai h1;have H3:=ai h3;have HK:=ai hK;have HS:=ai hS;clear h1 h3 hK hS
  gi_wp2
  refine⟨by simp,.inl ⟨_,_,rfl,run_takeDeferred HK.o,?_⟩⟩;refine⟨_,wG rfl ((World.putObj_heap_other (by omega)).trans H1.o),bF ?_,?_⟩
  . rw[HN.o]
    symm
    rw[List.all_eq_false];obtain⟨x,hx,hxv⟩:=h2.o;obtain⟨r,hr⟩:=HS.o;refine⟨bl x,?_,by simpa [nameB] using hxv⟩;rw[<-hr];exact List.mem_append.2 (.inl (List.mem_map.2 ⟨x,hx,rfl⟩))
  . exact H3.o.grown (grownBy_putObj' _ _ _) H3.o.size (fun k e=>by cases e;omega)
end
theorem Sl.of_bk{w:VA}{b size n:Nat}{t:TypeId}{cs:Array VC}(h:Bk w b t cs)(hl:cs.size=n*size):Sl w w.heap.size size (some ⟨b,0,none⟩) n cs.toList :=
 ⟨by simpa using hl,fun _=>⟨b,0,rfl,h.lt,fun j u hu=>by rw[Nat.zero_add,h.cell];simpa using hu⟩⟩
@[go_sem] theorem Vo : Tryz.prog.eqGuardType Tryz.prog.depth 82 = false := by kernel_rfl
theorem Tv:Tryz.prog.stoodInHeld 82=false:=by kernel_rfl
@[go_sem high] theorem Vz (s t s' t' : VB) (w : VA) : (Op.equalIn 10000 82 (.agg #[.string s, .string t]) (.agg #[.string s', .string t'])).run Tryz.prog w = .ok (s.toList == s'.toList && t.toList == t'.toList) w := by
 have hS:Tryz.prog.underlying 82=some (.struct (Tryz.prog.fieldsOf 82)):=by kernel_rfl
 have a9:=Tryz.isAgg9;have u9:=Tryz.underlying9;rw[show(10000:Nat)=9999+1 from rfl,run_equalIn_agg w 9999 82 _ _ hS Tv];simp only[Program.fieldsOf,Tryz.underlying82]
 go_simp
 by_cases h1:s.toList=s'.toList <;> by_cases h2:t.toList=t'.toList <;> simp[h1,h2]
