/-
  Lemmas of the card.
-/
import Derived.Test.YtknefelegjlgnaaGreatDoorDCDu24
set_option maxRecDepth 100000
set_option maxHeartbeats 1000000
namespace Go.Proofs.YtknefelegjlgnaaGreatDoor
open Go.RowKit
section
open Go.ChangeShapes Go.WideShapes Go.ChangeAt Go.RowKit Go.Joins Go.Deep
theorem AL:Tryz.prog.cellsOf 48=1:=by kernel_rfl
theorem BQ:Tryz.prog.cellsOf 50=2:=by kernel_rfl
theorem BR:Tryz.prog.cellsOf 118=3:=by kernel_rfl
theorem Mi{α:Type}{l:List α}(h:l.length=5):∃a b c d e,l= [a,b,c,d,e]:=by
 match l,h with
 | [a,b,c,d,e],_=>exact⟨a,b,c,d,e,rfl⟩
section
variable {H : Type} {enc : TypeId × MS -> H} {P : Program} {w : MQ} {base : Nat} {spare : Nat -> Bool} {held : Bool} {fuel : Nat} {cs : List MS} {x : DataW H × List MemPlace}
theorem uo{t s:TypeId}(ht:P.underlying t=some (.array 2 s))(hs:P.underlying s=some (.int .u64))
  (hC:P.cellsOf t=2) (hcs:P.cellsOf s=1) (h:DataW.trod enc P w base spare held fuel t cs=some x):∃d:Dig,cs=dgC d/\WfD d:=by
 obtain⟨xs,m,_,_,hlen,hxl,hf⟩:=DataW.trod_array ht h;rw[hC]at hlen;obtain⟨c0,c1,rfl⟩:=nK hlen;obtain⟨y0,y1,rfl⟩:=nK hxl;have h0:=hf 0 (by omega);have h1:=hf 1 (by omega);rw[hcs]at h0 h1;simp at h0 h1;obtain⟨a,ha,_,hz⟩:=DataW.trod_int hs h0;obtain⟨b,hb,_,hz2⟩:=DataW.trod_int hs h1;simp at ha hb;obtain⟨w1,w2⟩:=bounds_u64 hz;obtain⟨w3,w4⟩:=bounds_u64 hz2;exact⟨(a,b),by rw[ha,hb];rfl,⟨w1,by omega,w3,by omega⟩⟩
theorem II{t e s u:TypeId}{f0 f1:Field}(ht:P.underlying t=some (.struct #[f0,f1]))(o0:f0.offset=0)(o1:f1.offset=2)(t0:f0.type=e)(t1:f1.type=s)
  (he:P.underlying e=some (.array 2 u)) (hu:P.underlying u=some (.int .u64)) (hs:P.underlying s=some .string)
  (hC:P.cellsOf t=3) (hce:P.cellsOf e=2) (hcu:P.cellsOf u=1) (hcs:P.cellsOf s=1) (h:DataW.trod enc P w base spare held fuel t cs=some x):∃i:Itm,cs=itC i/\WfD i.1/\i.2.size<=maxLen:=by
 obtain⟨xs,m,_,_,hlen,hxl,hf⟩:=DataW.trod_struct ht h;rw[hC]at hlen;obtain⟨c0,c1,c2,rfl⟩:=qJ hlen;obtain⟨y0,y1,rfl⟩:=nK hxl;have h0:=hf 0 f0 rfl;have h1:=hf 1 f1 rfl;rw[o0,t0,hce]at h0;rw[o1,t1,hcs]at h1;simp at h0 h1;obtain⟨d,hd,hw⟩:=uo he hu hce hcu h0;obtain⟨b,hb,_,hz⟩:=DataW.trod_string hs h1;simp[dgC]at hd hb;exact⟨(d,b),by rw[hd.1,hd.2,hb];rfl,hw,hz⟩
end
section
variable {H : Type} {enc : TypeId × MS -> H} {W : MQ} {base : Nat} {v : MS} {d : DataW H} {p : List MemPlace} {r : Reach} {b0 : Nat} {sp : Nat -> Bool} {held : Bool}
end
end
section
open Go.ChangeShapes Go.WideShapes Go.ChangeAt Go.RowKit Go.Joins Go.Deep
theorem BO:Tryz.prog.cellsOf 85=5:=by kernel_rfl
theorem BP:Tryz.prog.cellsOf 65=7:=by kernel_rfl
theorem KN:Tryz.prog.cellsOf 42=3:=by kernel_rfl
theorem KL:Tryz.prog.cellsOf 29=1:=by kernel_rfl
theorem KP:Tryz.prog.cellsOf 31=1:=by kernel_rfl
theorem KM:Tryz.prog.cellsOf 59=1:=by kernel_rfl
theorem KG:Tryz.prog.cellsOf 40=1:=by kernel_rfl
theorem qa:Tryz.prog.cellsOf 3=1:=by kernel_rfl
theorem Db{α:Type}{l:List α}(h:l.length=7):∃a b c d e f g,l= [a,b,c,d,e,f,g]:=by
 match l,h with
 | [a,b,c,d,e,f,g],_=>exact⟨a,b,c,d,e,f,g,rfl⟩
section
variable {H : Type} {enc : TypeId × MS -> H} {P : Program} {w : MQ} {base : Nat} {spare : Nat -> Bool} {held : Bool} {fuel : Nat} {cs : List MS} {x : DataW H × List MemPlace}
theorem I5{t e s u:TypeId}{f0 f1 f2:Field}(ht:P.underlying t=some (.struct #[f0,f1,f2]))(o0:f0.offset=0)(o1:f1.offset=1)(o2:f2.offset=3)(t0:f0.type=s)(t1:f1.type=e)(t2:f2.type=e)
  (he:P.underlying e=some (.array 2 u)) (hu:P.underlying u=some (.int .u64)) (hs:P.underlying s=some .string)
  (hC:P.cellsOf t=5) (hce:P.cellsOf e=2) (hcu:P.cellsOf u=1) (hcs:P.cellsOf s=1) (h:DataW.trod enc P w base spare held fuel t cs=some x):∃i:Upd,cs=upC i/\i.1.size<=maxLen/\WfU i:=by
 obtain⟨xs,m,_,_,hlen,hxl,hf⟩:=DataW.trod_struct ht h;rw[hC]at hlen;obtain⟨c0,c1,c2,c3,c4,rfl⟩:=Mi hlen;obtain⟨y0,y1,y2,rfl⟩:=qJ hxl;have h0:=hf 0 f0 rfl;have h1:=hf 1 f1 rfl;have h2:=hf 2 f2 rfl;rw[o0,t0,hcs]at h0;rw[o1,t1,hce]at h1;rw[o2,t2,hce]at h2;simp at h0 h1 h2;obtain⟨b,hb,_,hz⟩:=DataW.trod_string hs h0;obtain⟨d,hd,hw⟩:=uo he hu hce hcu h1;obtain⟨q,hq,hv⟩:=uo he hu hce hcu h2;simp[dgC]at hd hb hq;exact⟨(b,d,q),by rw[hd.1,hd.2,hb,hq.1,hq.2];rfl,hz,hw,hv⟩
theorem IW{t i s ft pt ut kt:TypeId}{f0 f1 f2 f3 f4 f5 f6:Field}(ht:P.underlying t=some (.struct #[f0,f1,f2,f3,f4,f5,f6]))
  (o0:f0.offset=0) (o1:f1.offset=1) (o2:f2.offset=2) (o3:f3.offset=3) (o4:f4.offset=4) (o5:f5.offset=5) (o6:f6.offset=6)
  (t0:f0.type=i) (t1:f1.type=s) (t2:f2.type=ft) (t3:f3.type=pt) (t4:f4.type=ut) (t5:f5.type=i) (t6:f6.type=kt)
  (hi:P.underlying i=some (.int .i64)) (hs:P.underlying s=some .string) (hC:P.cellsOf t=7) (hci:P.cellsOf i=1) (hcs:P.cellsOf s=1) (hcf:P.cellsOf ft=1) (hcp:P.cellsOf pt=1) (hcu:P.cellsOf ut=1) (hck:P.cellsOf kt=1)
  (kf:∀(fuel:Nat)(cs:List MS)(x:DataW H×List MemPlace),DataW.trod enc P w base spare held fuel ft cs=some x->∃A n c xs,cs= [.slice A n c]/\Sl w w.heap.size 2 A n (flat flC xs)/\n<=c/\c<=maxLen/\∀f∈xs,f.1.size<=maxLen/\f.2.size<=maxLen)
  (kp:∀(fuel:Nat)(cs:List MS)(x:DataW H×List MemPlace),DataW.trod enc P w base spare held fuel pt cs=some x->∃A n c xs,cs= [.slice A n c]/\Sl w w.heap.size 3 A n (flat itC xs)/\n<=c/\c<=maxLen/\∀i∈xs,WfD i.1/\i.2.size<=maxLen)
  (ku:∀(fuel:Nat)(cs:List MS)(x:DataW H×List MemPlace),DataW.trod enc P w base spare held fuel ut cs=some x->∃A n c xs,cs= [.slice A n c]/\Sl w w.heap.size 5 A n (flat upC xs)/\n<=c/\c<=maxLen/\∀u∈xs,u.1.size<=maxLen/\WfU u)
  (kk:∀(fuel:Nat)(cs:List MS)(x:DataW H×List MemPlace),DataW.trod enc P w base spare held fuel kt cs=some x->∃A n c xs,cs= [.slice A n c]/\Sl w w.heap.size 1 A n (flat gT xs)/\n<=c/\c<=maxLen/\∀q∈xs,(q:Int)<=9223372036854775807)
  (h:DataW.trod enc P w base spare held fuel t cs=some x):∃a:AcX,cs=acC a/\AcM w w.heap.size a/\AcB a.1:=by
 obtain⟨xs,m,_,_,hlen,hxl,hf⟩:=DataW.trod_struct ht h;rw[hC]at hlen;obtain⟨c0,c1,c2,c3,c4,c5,c6,rfl⟩:=Db hlen;obtain⟨y0,y1,y2,y3,y4,y5,y6,rfl⟩:=Db hxl;have h0:=hf 0 f0 rfl;have h1:=hf 1 f1 rfl;have h2:=hf 2 f2 rfl;have h3:=hf 3 f3 rfl;have h4:=hf 4 f4 rfl;have h5:=hf 5 f5 rfl;have h6:=hf 6 f6 rfl;rw[o0,t0,hci]at h0;rw[o1,t1,hcs]at h1;rw[o2,t2,hcf]at h2;rw[o3,t3,hcp]at h3;rw[o4,t4,hcu]at h4;rw[o5,t5,hci]at h5;rw[o6,t6,hck]at h6;simp at h0 h1 h2 h3 h4 h5 h6;obtain⟨k,hk,_,_⟩:=DataW.trod_int hi h0;obtain⟨b,hb,_,hz⟩:=DataW.trod_string hs h1;obtain⟨A2,n2,d2,l2,e2,s2,u2,v2,q2⟩:=kf _ _ _ h2;obtain⟨A3,n3,d3,l3,e3,s3,u3,v3,q3⟩:=kp _ _ _ h3;obtain⟨A4,n4,d4,l4,e4,s4,u4,v4,q4⟩:=ku _ _ _ h4;obtain⟨k5,hk5,_,hz5⟩:=DataW.trod_int hi h5;obtain⟨A6,n6,d6,l6,e6,s6,u6,v6,q6⟩:=kk _ _ _ h6;have m2:=s2.len kP (by omega);have m3:=s3.len bN (by omega);have m4:=s4.len eB (by omega);have m6:=Sl.len (enc:=gT) (s:=1) (fun _=>rfl) (by decide) s6;subst m2;subst m3;subst m4;subst m6;have w2:=(bounds_i64 hz5).2;simp at hk hb e2 e3 e4 hk5 e6;exact⟨(⟨k,b,l2,l3,l4,k5,l6⟩,⟨A2,d2,A3,d3,A4,d4,A6,d6⟩),by rw[hk,hb,e2,e3,e4,hk5,e6];rfl,⟨s2,s3,s4,s6⟩,⟨Z0 u2 v2,q2,Z0 u3 v3,q3,Z0 u4 v4,q4,Z0 u6 v6,hz,w2⟩⟩
theorem Ia{t i l:TypeId}{f0 f1 f2:Field}(ht:P.underlying t=some (.struct #[f0,f1,f2]))(o0:f0.offset=0)(o1:f1.offset=1)(o2:f2.offset=2)(t0:f0.type=i)(t1:f1.type=i)(t2:f2.type=l)
  (hi:P.underlying i=some (.int .i64)) (hC:P.cellsOf t=3) (hci:P.cellsOf i=1) (hcl:P.cellsOf l=1)
  (kl:∀(fuel:Nat)(cs:List MS)(x:DataW H×List MemPlace),DataW.trod enc P w base spare held fuel l cs=some x->∃A n c xs,cs= [.slice A n c]/\Sl w w.heap.size 7 A n (flat acC xs)/\n<=c/\c<=maxLen/\∀a∈xs,AcM w w.heap.size a/\AcB a.1)
  (h:DataW.trod enc P w base spare held fuel t cs=some x):∃n z A m c l,cs= [.int .i64 n,.int .i64 z,.slice A m c]/\AcsM w w.heap.size A m l/\m<=maxLen/\∀a∈l,AcB a.1:=by
 obtain⟨xs,m,_,_,hlen,hxl,hf⟩:=DataW.trod_struct ht h;rw[hC]at hlen;obtain⟨c0,c1,c2,rfl⟩:=qJ hlen;obtain⟨y0,y1,y2,rfl⟩:=qJ hxl;have h0:=hf 0 f0 rfl;have h1:=hf 1 f1 rfl;have h2:=hf 2 f2 rfl;rw[o0,t0,hci]at h0;rw[o1,t1,hci]at h1;rw[o2,t2,hcl]at h2;simp at h0 h1 h2;obtain⟨k,hk,_⟩:=DataW.trod_int hi h0;obtain⟨z,hz,_⟩:=DataW.trod_int hi h1;obtain⟨A2,n2,d2,l2,e2,s2,u2,v2,q2⟩:=kl _ _ _ h2;simp at hk hz e2;exact⟨k,z,A2,n2,d2,l2,by rw[hk,hz,e2],⟨s2,fun x hx=>(q2 x hx).1⟩,Z0 u2 v2,fun x hx=>(q2 x hx).2⟩
end
section
variable {H : Type} {enc : TypeId × MS -> H} {W : MQ} {base : Nat} {v : MS} {d : DataW H} {p : List MemPlace} {r : Reach} {b0 : Nat} {sp : Nat -> Bool} {held : Bool} {fuel : Nat} {cs : List MS} {x : DataW H × List MemPlace}
theorem JP(h:DataW.trod enc Tryz.prog W base sp held fuel 65 cs=some x):∃a:AcX,cs=acC a/\AcM W W.heap.size a/\AcB a.1 :=
 IW Tryz.underlying65 rfl rfl rfl rfl rfl rfl rfl rfl rfl rfl rfl rfl rfl rfl Tryz.underlying3 Tryz.underlying9 BP qa pI Jz KL KP KM
  (fun _ _ _ hh=>ky (encA:=flC) (Q:=fun f=>f.1.size<=maxLen/\f.2.size<=maxLen) Tryz.underlying63 BN (by omega) kP (fun _ _ _ hh=>Ho Tryz.underlying82 rfl rfl rfl rfl Tryz.underlying9 BN pI hh) hh)
  (fun _ _ _ hh=>ky (encA:=itC) (Q:=fun i=>WfD i.1/\i.2.size<=maxLen) Tryz.underlying29 BR (by omega) bN (fun _ _ _ hh=>II Tryz.underlying118 rfl rfl rfl rfl Tryz.underlying50 Tryz.underlying48 Tryz.underlying9 BR BQ AL pI hh) hh)
  (fun _ _ _ hh=>ky (encA:=upC) (Q:=fun u=>u.1.size<=maxLen/\WfU u) Tryz.underlying31 BO (by omega) eB (fun _ _ _ hh=>I5 Tryz.underlying85 rfl rfl rfl rfl rfl rfl Tryz.underlying50 Tryz.underlying48 Tryz.underlying9 BO BQ AL pI hh) hh)
  (fun _ _ _ hh=>ky (encA:=gT) (Q:=fun q=>q<=9223372036854775807) Tryz.underlying59 qa (by omega) (fun _=>rfl) (fun _ _ _ hh=>by
    obtain⟨k,hk,_,hz⟩:=DataW.trod_int Tryz.underlying3 hh;exact⟨k,hk,by have:=(bounds_i64 hz).2;omega⟩) hh) h
theorem open_run(hv:Value.okWide Tryz.prog W r b0 42 v)(h:DataW.Trod enc Tryz.prog W base sp held 42 v d p):∃n z A m c l,v=jb n z A m c/\AcsM W W.heap.size A m l/\m<=maxLen/\∀a∈l,AcB a.1:=by
 obtain⟨cs,rfl,hsz⟩:=okWide_struct Tryz.underlying42 hv;obtain⟨fuel,hf⟩:=h;obtain⟨n,z,A,m,c,l,he,k⟩:=Ia Tryz.underlying42 rfl rfl rfl rfl rfl rfl Tryz.underlying3 KN qa KG (fun _ _ _ hh=>ky (encA:=acC) (Q:=fun a=>AcM W W.heap.size a/\AcB a.1) Tryz.underlying40 BP (by omega) pJ (fun _ _ _ hh=>JP hh) hh) hf;refine⟨n,z,A,m,c,l,?_,k⟩;have:cs.toList= [.int .i64 n,.int .i64 z,.slice A m c]:=he;unfold jb;rw[show cs= #[.int .i64 n,.int .i64 z,.slice A m c] by rw[<-Array.toArray_toList (xs:=cs),this]]
theorem open_ints(hv:Value.okWide Tryz.prog W r b0 59 v)(h:DataW.Trod enc Tryz.prog W base sp held 59 v d p):∃A n c l,v= .slice A n c/\Sl W W.heap.size 1 A n (flat gT l)/\n<=c/\c<=maxLen/\∀q∈l,q<=9223372036854775807:=by
 obtain⟨A,n,c,rfl⟩:=okWide_slice Tryz.underlying59 hv;obtain⟨fuel,hf⟩:=h;obtain⟨A',n',c',us,he,h1,h2,h3,h4⟩:=ky (encA:=gT) (Q:=fun q=>q<=9223372036854775807) Tryz.underlying59 qa (by omega) (fun _=>rfl) (fun _ _ _ hh=>by
  obtain⟨k,hk,_,hz⟩:=DataW.trod_int Tryz.underlying3 hh;exact⟨k,hk,by have:=(bounds_i64 hz).2;omega⟩) hf
 refine⟨A',n',c',us,?_,h1,h2,h3,h4⟩;have: [Value.slice A n c]= [Value.slice A' n' c']:=he
 simpa using this
end
end
end Go.Proofs.YtknefelegjlgnaaGreatDoor
