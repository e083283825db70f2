/- Part Pbz. -/
import Derived.Test.YtehaoggjlciobaaGreatPby
import Derived.Test.YtehaoggjlciobaaGreatPao
import Derived.Test.YtehaoggjlciobaaGreatPbv
import Derived.Test.YtehaoggjlciobaaGreatPbw
set_option linter.all false
set_option maxRecDepth 20000
set_option maxHeartbeats 16000000
namespace Go.Proofs.YtehaoggjlciobaaGreat
open Go.Maps Go.RowKit
theorem ux.fr {n:Nat} {w w2:World} {o:ee} {q:Nat} {cur:Array Value} (h:ux n w o) (hb:ah [q] w w2) (hq:w.heap[q]? =some (.cells cur 36 (0,0))):ux n w2 o:=by
 obtain⟨k,c,s,t,keys,d1,d2,d3,d4,d5,d6,d7,d8,d9,d10,d11,d12,d13,d14,d15,d16⟩:=h;refine⟨k,c,s,t,keys,d1,d2,d3,d4,d5,d6,d7,d8,d9,d10,d11,d12.fr (P:=λe=>e=9) (Fr.one hb hq ak) rfl,d13,d14,λhk=> ?_,d16⟩;obtain⟨es,os,ps,h⟩:=d15 hk;exact⟨es,os,ps,h.fr (Fr.one hb hq ak)⟩
theorem qjq (q:Sl) (r:Sl) (p:Sl) (w:World) (hq:q.ok w) (hr:r.ok w) (hp:p.ok w):
  Calls Tryz.prog 6 #[.agg #[q.v,r.v,p.v]] w λe w'=>∃ rv ov pv es os ps,e= .returned (.agg #[rv,ov,pv])/\yS 0 w' rv ov pv es os ps/\ad w w':=by
 obtain⟨A,m,c,x⟩:=q;obtain⟨B,m2,c2,y⟩:=r;obtain⟨C,m3,c3,z⟩:=p;unfold Sl.ok Sl.l at hq hr hp;unfold Sl.v;simp only at hq hr hp⊢;have HQ:=aa hq;have HR:=aa hr;have HP:=aa hp;clear hq hr hp;go_in;go_wp2_with fail
 refine(Za A B C m c m2 c2 m3 c3 _ _ _ 0 _ (bo.keep HQ.o al) (bo.keep HR.o al) (bo.keep HP.o al) (.inl rfl)).mono ?_;rintro e w2 ⟨rv,ov,pv,es,os,ps,rfl,hd,k2⟩;have HD:=aa hd;obtain⟨j',ka,iy,_,_⟩:=hd.1.form;obtain⟨mG,mH,b3,_,_⟩:=hd.2.1.form;obtain⟨kd,ke,gG,_,_⟩:=hd.2.2.1.form;generalize (bw es).length=kf at iy;generalize os.length=eJ at b3;generalize ps.length=rK at gG;subst iy b3 gG;have HB:ag (w2.heap[w.heap.size+1]? =some (.cells #[.slice none 0 0,.slice none 0 0,.slice none 0 0] 29 (0,0))):=k2.heap (((ad.refl _).alloc _).heap (ea ao));have HK:ag (ad w w2):=ad.call al k2;have r0:=ap HB.o 0;have r1:=ap HB.o 1;have r2:=ap HB.o 2;have p0:=aI HB.o 0;have p1:=aI HB.o 1;have p2:=aI HB.o 2;clear hd k2;go_wp2_with fail
 (try simp only[Exit.inBlock,Exit.then])
 refine KV (results_cell_row rfl _ _ (w.heap.size+1) _ #[.slice j' kf ka,.slice mG eJ mH,.slice kd rK ke] (0,0) _ rfl (vG HB.o _ _ _) Tryz.underlying29 rfl av) rfl ?_;have hb:ah [w.heap.size+1] _ _:=ah.vG (w:=w2) (w.heap.size+1) (.slice j' kf ka) (.slice mG eJ mH) (.slice kd rK ke);exact⟨_,_,_,es,os,ps,rfl,HD.o.fr (Fr.one hb HB.o ak),HK.o.but hb ao⟩
theorem qjr (a:yV) (n:Nat) (w:World) (h:wj w a) (hn:2<=n/\n<=5):
  Calls Tryz.prog 8 #[.agg (wi a).toArray,.int .i64 n] w λe w'=>∃ o,e= .returned (dx o)/\ux n w' o/\ad w w':=by
 obtain⟨lI,ac,lJ,af,kN,eU,eC,lK,⟨KA,kn,kc,Pg⟩,⟨A,m,mc,x⟩,⟨B,m2,c2,y⟩,⟨C,m3,c3,z⟩⟩:=a;obtain⟨h0,h1,h2,h3⟩:=h;unfold Sl.ok Sl.l at h0 h1 h2 h3;unfold wi Sl.v;simp only at h0 h1 h2 h3⊢;have H0:=aa h0;have H1:=aa h1;have H2:=aa h2;have H3:=aa h3;clear h0 h1 h2 h3;go_in;go_wp2_with fail
 refine(qjo lI ac lJ af kN eU eC lK KA kn kc _ A m mc _ B m2 c2 _ C m3 c3 _ n _ (bo.keep H0.o al) (bo.keep H1.o al) (bo.keep H2.o al) (bo.keep H3.o al) hn).mono ?_;rintro e w2 ⟨⟨ok,oc,os,ot,oa,oh,BF,BG,ov1,ov2,ov3,ov4⟩,rfl,hd,k2⟩;have HD:=aa hd;obtain⟨k,c,s,t,keys,d1,d2,d3,d4,d5,d6,d7,d8,d9,d10,d11,d12,d13,d14,d15,⟨j',kf,ka,h2⟩,⟨mG,eJ,mH,h3⟩,⟨kd,rK,ke,h4⟩⟩:=hd;obtain⟨VA,vc,h1,_,_⟩:=d12.form;generalize keys.length=kl at h1;simp only at h1 h2 h3 h4;subst h1 h2 h3 h4;have HB:ag (w2.heap[w.heap.size+1]? =some (.cells rJ 36 (0,0))):=k2.heap (((ad.refl _).alloc _).heap (ea ao));have HK:ag (ad w w2):=ad.call al k2;unfold rJ at HB;have r0:=ap HB.o 0;have p0:=aI HB.o 0;have r1:=ap HB.o 1;have p1:=aI HB.o 1;have r2:=ap HB.o 2;have p2:=aI HB.o 2;have r3:=ap HB.o 3;have p3:=aI HB.o 3;have r4:=ap HB.o 4;have p4:=aI HB.o 4;have r5:=ap HB.o 5;have p5:=aI HB.o 5;have r6:=ap HB.o 6;have p6:=aI HB.o 6;have r7:=ap HB.o 7;have Pk:=aI HB.o 7;have BB:=ap HB.o 8;have BE:=aI HB.o 8;have BC:=ap HB.o 9;have Pl:=aI HB.o 9;have Ph:=ap HB.o 10;have Pm:=aI HB.o 10;have Pj:=ap HB.o 11;have Pn:=aI HB.o 11;unfold dx il;simp only;clear k2 d1 d2 d3 d4 d5 d6 d7 d8 d9 d10 d11 d12 d13 d14 d15;go_wp2_with fail
 (try simp only[Exit.inBlock,Exit.then])
 refine KV (results_cell_row rfl _ _ (w.heap.size+1) _ #[.int .i64 ok,.int .i64 oc,.int .i64 os,.int .i64 ot,.int .i64 oa,.int .i64 oh,.string BF,.string BG,.slice VA kl vc,.slice j' kf ka,.slice mG eJ mH,.slice kd rK ke] (0,0) _ rfl (rH HB.o) Tryz.underlying36 rfl av) rfl ?_;have hb:ah [w.heap.size+1] _ _:=ah.rH (w:=w2) (q:=w.heap.size+1) (y0:= .int .i64 ok) (y1:= .int .i64 oc) (y2:= .int .i64 os) (y3:= .int .i64 ot) (y4:= .int .i64 oa) (y5:= .int .i64 oh) (y6:= .string BF) (y7:= .string BG) (y8:= .slice VA kl vc) (y9:= .slice j' kf ka) (y10:= .slice mG eJ mH) (y11:= .slice kd rK ke);exact⟨⟨ok,oc,os,ot,oa,oh,BF,BG,_,_,_,_⟩,rfl,HD.o.fr hb HB.o,HK.o.but hb ao⟩
noncomputable def Jo (ps:List Int):Bool:= @decide (cH ps) (Classical.propDecidable _)
theorem Pp {ps:List Int} (h:cH ps):Jo ps=true:= @ql3 _ (Classical.propDecidable _) h
theorem qjs {ps:List Int} (h:¬cH ps):Jo ps=false:= @ql4 _ (Classical.propDecidable _) h
theorem qjt {ps:List Int} {B:Bool} (h:B=true↔cH ps):B=Jo ps:=by
 by_cases ht:cH ps
 ·rw[Pp ht,h.2 ht]
 ·rw[qjs ht]
  cases B
  ·rfl
  ·exact absurd (h.1 rfl) ht
theorem Zr (A B C:Option Addr) (n1 c1 n2 c2 n3 c3:Nat) (es:List Nat) (os ps:List Int) (w:World) (hr:fY w A n1 c1 B n2 c2 C n3 c3 (bw es) os ps) (hf:Fit es os n3):
  Calls Tryz.prog 16 #[.agg #[.slice A n1 c1,.slice B n2 c2,.slice C n3 c3]] w λe w'=>e= .returned (.bool (Jo ps))/\ad w w':=by
 have HR:=aa hr;have HF:=aa hf;clear hr hf;go_in;go_wp2_with fail
 refine(KZ A B C n1 c1 n2 c2 n3 c3 es os ps _ (HR.o.keep al) HF.o).mono ?_;rintro e w1 ⟨rfl,k1⟩;have K1:ad w w1:=ad.call al k1;have x2:w1.cell? ⟨w.heap.size,2,none⟩=some (.slice C n3 c3):=k1.af (by go_simp);go_wp2_with fail
 refine(Kv C n3 c3 ps _ (HR.o.ps.keep K1)).mono ?_;rintro e w2 ⟨D,rfl,hB,k2⟩;have ja:=aa (qjt hB);clear hB;go_wp2_with fail
 go_ret;exact⟨by rw[<- ja.o];rfl,K1.call k2⟩
theorem qju:∀ x:Fin 64,∀ y:Fin 64,((List.range 6).any λk=>(decide ((x:Nat)/2 ^ k%2=1)&&decide ((y:Nat)/2 ^ k%2=1)))= !(bits .and .i64 ((x:Nat):Int) ((y:Nat):Int)==0):=λx y=>by rw[qcj x y,Bool.not_not]
theorem qjv {x y:Nat} (hx:x<64) (hy:y<64):qD x y↔(!(bits .and .i64 (x:Int) (y:Int)==0))=true:=by
 have h:=qju ⟨x,hx⟩ ⟨y,hy⟩;simp only at h;rw[<- h,List.any_eq_true];constructor
 ·rintro⟨k,h1,h2⟩;refine⟨k,List.mem_range.2 ?_,by rw[ql3 h1,ql3 h2];rfl⟩;rcases R6 k 6 with g|g
  ·exact g
  ·have:x/2 ^ k=0:=Nat.div_eq_of_lt (R4 hx (Nat.pow_le_pow_right (n:=2) (i:=6) ab g));rw[this]at h1;omega
 ·rintro⟨k,_,h1⟩;rw[Bool.and_eq_true,decide_eq_true_eq,decide_eq_true_eq]at h1;exact⟨k,h1⟩
theorem qjw (a b:Nat) (w:World) (ha:a<64) (hb:b<64):
  Calls Tryz.prog 38 #[.int .i64 a,.int .i64 b] w λe w'=>e= .returned (.bool (!(bits .and .i64 (a:Int) (b:Int)==0)))/\ad w w':=
 (qcv a b w ha hb).mono λe w' ⟨B,h1,h2,h3⟩=>⟨by rw[h1];congr 2;rw[Bool.eq_iff_iff];exact h2.trans (qjv ha hb),h3⟩
theorem qjx (ps:List Int) (a:Int):(fe ps a).Nodup:=by
 unfold fe;split
 ·exact qcf _ _ _
 ·exact List.nodup_nil
theorem qjy {ps:List Int} (hp:cH ps) (a:Int):(fe ps a).length<=6:=by
 have h6:ps.length<=6:=hp.choose_spec.cV;unfold fe;split
 ·exact qcg (Ky _ _ _) h6
 ·simp
def nS (NS:List Nat) (s:Int) (full:List Rg) (k:Nat):List Rg:=if s∈ints (NS.take k)then full else []
theorem Zs (NS:List Nat) (s:Int) (full:List Rg):nS NS s full 0=[]:=by simp[nS,ints]
theorem Pq {NS:List Nat} {k y:Nat} {s:Int} (h:NS[k]? =some y):s∈ints (NS.take (k+1))↔s∈ints (NS.take k)∨s=y:=by
 obtain⟨an,he⟩:=pi.1 h;rw[QI an,he];unfold ints;rw[List.map_append,Pv];simp
theorem qjz {NS:List Nat} {k y:Nat} {s:Int} {full:List Rg} (h:NS[k]? =some y) (hn:s≠y):nS NS s full (k+1)=nS NS s full k:=by
 unfold nS;by_cases hm:s∈ints (NS.take k)
 ·rw[if_pos hm,if_pos ((Pq h).2 (.inl hm))]
 ·rw[if_neg hm,if_neg (λg=>((Pq h).1 g).elim hm hn)]
theorem qjA {NS:List Nat} {k y:Nat} {full:List Rg} (hd:NS.Nodup) (h:NS[k]? =some y):nS NS (y:Nat) full k=[]/\nS NS (y:Nat) full (k+1)=full:=by
 refine⟨?_,by unfold nS;rw[if_pos ((Pq h).2 (.inr rfl))]⟩;unfold nS;rw[if_neg];intro hm;obtain⟨z,hz,e⟩:=List.mem_map.1 hm;obtain rfl:z=y:=by have e2:((z:Nat):Int)=y:=e;omega
 obtain⟨U,hj⟩:=List.getElem?_of_mem hz;have rR:=(bg hj);rw[qcd]at rR;rw[qlY ab]at hj;obtain⟨h1,e1⟩:=pi.1 hj;obtain⟨h2,e2⟩:=pi.1 h;have:=List.pairwise_iff_getElem.1 hd U k h1 h2 ab;rw[e1,e2]at this;exact this rfl
theorem Zt (x y:Nat):(bits .and .i64 (x:Int) (y:Int)==0)=(bits .and .i64 (y:Int) (x:Int)==0):=by rw[Sg]
theorem qjB (A B C:Option Addr) (n1 c1 n2 c2 n3 c3:Nat) (es:List Nat) (os ps:List Int) (a s:Int) (w:World) (hr:fY w A n1 c1 B n2 c2 C n3 c3 (bw es) os ps) (hf:eA es os ps n3):
  Calls Tryz.prog 14 #[.agg #[.slice A n1 c1,.slice B n2 c2,.slice C n3 c3],.int .i64 a,.int .i64 s] w λe w'=>∃ D n4 c4,e= .returned (.slice D n4 c4)/\dL w' D n4 c4 (xz es os ps n3 a s)/\ad w w':=by
 obtain⟨i0,hi,a7,aY,aW⟩:=ql0 rU;have HI:=aa hi;have HR:=aa hr;have HF:=aa hf;have h1:n1=es.length+1:=by have:=hr.rs.1;rw[ju]at this;omega
 have h2:n2=n1:=by have:=hr.os.1;have:=hf.fit.len;omega
 have fG:=hf.fit.up.cV;obtain⟨ob,oo,rfl,gP⟩:=hr.os.2.2.2.2 ab;obtain⟨rb,ro,rfl,sy⟩:=hr.rs.2.2.2.2 ab
 have jx:ag (∀ i,i<n2->∃ o:Nat,o<64/\oa os i=o/\w.cell? ⟨ob,oo+i,none⟩=some (.int .i64 (o:Nat))):=λi hi=>by
  have h:=wL hf.fit (i:=i) ab;refine⟨(oa os i).toNat,ab,ab,?_⟩;rw[show(((oa os i).toNat:Nat):Int)=oa os i by omega];exact gP i hi
 have vx:ag (∀ i,i<n1->w.cell? ⟨rb,ro+i*2,none⟩=some (.string (fr es i))/\w.cell? ⟨rb,ro+i*2+1,none⟩=some (.string («to» es i))):=λi hi=>by
  have:=sy i hi;rwa [wH ab]at this
 have hb:=hr.nX;have og:n1<=c1:=hr.rs.2.1;have cz:n2<=c2:=hr.os.2.1;have UR:1<=n1/\n1<=7:=ab;have qZ:=aa h1;have qjC:c9 ps a s n3<64:=R4 (Gl ps a s n3) (tb hf.fit.cV);have yl:ag (∀ w9,ad w w9->Calls Tryz.prog 39 #[.slice C n3 c3,.int .i64 a,.int .i64 s] w9 λe w'=>e= .returned (.int .i64 (c9 ps a s n3:Nat))/\ad w9 w'):=λw9 h9=>qbG C n3 c3 ps a s w9 (HR.o.ps.keep h9)
 have mx:ag (xz es os ps n3 a s=if s∈ints (fe ps a)then iC es os (c9 ps a s n3:Nat) n1 else []):=by
  unfold ag xz;rw[<- h1]
 have hM7:=qjy hf.tree a;have hND:ag (fe ps a).Nodup:=qjx ps a;clear hr hf gP sy hi h1 fG;subst h2;generalize c9 ps a s n3=M at*;obtain⟨full,s6⟩:∃ l,iC es os (M:Nat) n2=l:=⟨_,rfl⟩;have HFU:=aa s6;rw[s6]at mx
 have Zu:ag (xz es os ps n3 a s=nS (fe ps a) s full (fe ps a).length):=by
  unfold ag;rw[mx.o];unfold nS;rw[List.take_length]
 clear s6 mx;go_in;go_wp2_with fail
 refine(Zr _ _ C n2 c1 n2 c2 n3 c3 es os ps _ (HR.o.keep al) HF.o.fit).mono ?_;rintro e w1 ⟨rfl,k1⟩;rw[Pp HF.o.tree];have K1:ad w w1:=ad.call al k1;have e0:w1.cell? ⟨w.heap.size,0,none⟩=some (.slice (some ⟨rb,ro,none⟩) n2 c1):=k1.af (by go_simp);have e1:w1.cell? ⟨w.heap.size,1,none⟩=some (.slice (some ⟨ob,oo,none⟩) n2 c2):=k1.af (by go_simp);have e2:w1.cell? ⟨w.heap.size,2,none⟩=some (.slice C n3 c3):=k1.af (by go_simp);go_wp2_with fail
 refine(qbz C n3 c3 ps a _ (HR.o.ps.keep K1)).mono ?_;rintro e w2 ⟨A2,x2,rfl,cT,k2⟩;have K2:=K1.call k2;have e0:=k2.af e0;have e1:=k2.af e1;have e2:=k2.af e2;generalize fe ps a=NS at*;obtain⟨L,hL⟩:∃ M,NS.length=M:=⟨_,rfl⟩;have HL:=aa hL;rw[hL]at cT hM7 Zu⊢;have hmc:L<=x2/\x2<=9223372036854775807:=by have h1:=cT.2.1;have h2:=cT.2.2.1;unfold maxLen at h2;omega
 have iA:=aa cT;clear cT hL;go_wp2_with fail
 go_loopw [8,10] (λov kv wr=>∃ (k l:Nat) (v:Value),ov=v/\k<=L/\kv= .int .i64 k/\ag ((nS NS s full k).length=l)/\ag (wr.ownsRow w2.heap.size 63 2 v l (hQ (nS NS s full k)))/\ad w2 wr) (λ_ kv _=>L-(intOf kv).toNat)
 case atStart=>exact⟨0,0,_,rfl,ab,rfl,by unfold ag;rw[Zs];rfl,by unfold ag;rw[Zs];exact qcb _ _ _ _,ad.refl _⟩
 case round=>
  obtain⟨k,l,v,rfl,hk,rfl,hl,HO,kr⟩:=hrel;by_cases an:k<L
  ·obtain⟨y,hy⟩:∃ y,NS[k]? =some y:=⟨_,jc (by rw[HL.o];exact an)⟩;obtain⟨b,off,rfl,fE⟩:=iA.o.2.2.2.2 ab;have q1:w2.cell? ⟨b,off+k,none⟩=some (.int .i64 (y:Nat)):=by rw[fE k an,CD hy]
   by_cases uU:s=(y:Nat)
   ·subst uU;obtain⟨l0,dp⟩:=qjA (full:=full) hND.o hy;have vB:=aa dp;rw[l0]at hl HO;obtain rfl:0=l:=hl.o;have q2:=kr.af q1;clear fE hy l0 dp hl;go_wp2_with fail
    go_loopw [8,11] (λov iv w9=>∃ (U l:Nat) (v:Value),ov=v/\U<=n2/\iv= .int .i64 U/\ag ((iC es os (M:Nat) U).length=l)/\ag (w9.ownsRow w2.heap.size 63 2 v l (hQ (iC es os (M:Nat) U)))/\ad w2 w9) (λ_ iv _=>n2-(intOf iv).toNat)
    case atStart=>exact⟨0,0,_,rfl,ab,rfl,rfl,HO,kr⟩
    case round=>
     obtain⟨U,l,v,rfl,hj,rfl,hl,pM,nT⟩:=hrel;have fG:l<=U:=by rw[<- hl.o];exact qcJ es os M U
     have q3:=nT.af q1;have z0:=nT.af e0;have z1:=nT.af e1;have z2:=nT.af e2;by_cases DV:U<n2
     ·obtain⟨o,qjD,oX,Zv⟩:=jx.o U DV;have co:=nT.af (K2.af Zv);have DN:=nT.af (K2.af (vx.o U DV).1);have DO:=nT.af (K2.af (vx.o U DV).2);have BH:=aa (λw9=>qjw M o w9 qjC qjD);have gB:ag ((bits .and .i64 (M:Int) (o:Int)==0)=true->iC es os M (U+1)=iC es os M U):=λh=>qcI (by rw[oX,Zt];exact h);have na:ag ((bits .and .i64 (M:Int) (o:Int)==0)=false->iC es os M (U+1)=iC es os M U++[(fr es U,«to» es U)]):=λh=>qcH (by rw[oX,Zt];exact h);clear oX Zv;generalize fr es U=f at*;generalize «to» es U=t at*
      cases hv:(bits .and .i64 (M:Int) (o:Int)==0)
      ·rw[hv]at BH;have hn:=aa (na.o hv);have Zw:ag ((iC es os (M:Nat) (U+1)).length=l+1):=by unfold ag;rw[hn.o,qC,hl.o];rfl
       have lY:ag ((hQ (iC es os M U)).length=l*2):=by unfold ag;rw[B0,hl.o]
       clear hv;go_wp2_with fail
       refine bz (λwB=>ad w2 wB/\ad wr wB/\wB.cell? ⟨w.heap.size,0,none⟩=some (.slice (some ⟨rb,ro,none⟩) n2 c1)/\wB.cell? ⟨w.heap.size,1,none⟩=some (.slice (some ⟨ob,oo,none⟩) n2 c2)/\wB.cell? ⟨w.heap.size,2,none⟩=some (.slice C n3 c3)/\wB.cell? ⟨ob,oo+U,none⟩=some (.int .i64 (o:Nat))) λwB SS=> ?_;obtain⟨au,br,aB,aC,aF,aX⟩:=SS.o _ (ad.refl _);repeat(first|(apply DW.ct;(focus (intro wd hI;obtain⟨ae,ay,ai,aj,aq,az⟩:=SS.o wd hI;go_wp2_with (first|(go_at_call 39;refine(yl.o _ (K2.call (au.call hI))).mono ?_;rintro e w6 ⟨rfl,cL⟩)|(go_at_call 38;refine(BH.o _).mono ?_;rintro e w8 ⟨rfl,mo⟩));exact aP));refine DW.np ?_)|(refine DW.bt av ?_;intro wd hI;obtain⟨ae,ay,ai,aj,aq,az⟩:=SS.o wd hI;go_wp2_with (first|(go_at_call 39;refine(yl.o _ (K2.call (au.call hI))).mono ?_;rintro e w6 ⟨rfl,cL⟩)|(go_at_call 38;refine(BH.o _).mono ?_;rintro e w8 ⟨rfl,mo⟩));refine cu hI SS (λbf SS=> ?_) rfl;obtain⟨au,br,aB,aC,aF,aX⟩:=SS.o _ (ad.refl _)))
       refine DW.nl SS ?_;rintro wd hI ⟨ae,ay,ai,aj,aq,az⟩;have dC:=aa (ad.own pM.o (show ad wr wd from ay));have DN:=ay.af DN;have DO:=ay.af DO;have hwd:=ae.size;go_wp2_with (at_builtin;refine wpList_append_own_at _ rfl _ _ 27 rfl w2.heap.size 63 i0 (.agg #[.string ⟨#[]⟩,.string ⟨#[]⟩]) 2 32 Tryz.underlying27 HI.o a7 aY aW rfl ak _ l _ rfl (dC.o.alloc _) ⟨wd.heap.size,0,none⟩ 1 1 [.string f,.string t] rfl rfl (JY _ _ _ _) (by simp[Value.oneCell']) (by unfold maxLen;omega) ab (by simp only[World.size_alloc];omega) ?_;intro v3 w3 bE cD _ _;have kY:=dC.o.lt;have K3:ad w2 w3:=(ae.alloc _).grown cD (λg hg=>(kY g hg).1);rw[JX _ (f,t),<- hn.o]at bE;have eR:=aa bE;clear bE cD)
       go_roundw
       case rel=>first|exact⟨U+1,l+1,_,rfl,ab,aA,Zw,eR,K3⟩|((repeat apply R7);exact⟨⟨U+1,l+1,_,rfl,ab,aA,Zw,eR,K3⟩,rfl⟩)
       case measure=>simp[intOf];omega
      ·rw[hv]at BH;have hn:=aa (gB.o hv);clear hv;go_wp2_with fail
       refine bz (λwB=>ad w2 wB/\ad wr wB/\wB.cell? ⟨w.heap.size,0,none⟩=some (.slice (some ⟨rb,ro,none⟩) n2 c1)/\wB.cell? ⟨w.heap.size,1,none⟩=some (.slice (some ⟨ob,oo,none⟩) n2 c2)/\wB.cell? ⟨w.heap.size,2,none⟩=some (.slice C n3 c3)/\wB.cell? ⟨ob,oo+U,none⟩=some (.int .i64 (o:Nat))) λwB SS=> ?_;obtain⟨au,br,aB,aC,aF,aX⟩:=SS.o _ (ad.refl _);repeat(first|(apply DW.ct;(focus (intro wd hI;obtain⟨ae,ay,ai,aj,aq,az⟩:=SS.o wd hI;go_wp2_with (first|(go_at_call 39;refine(yl.o _ (K2.call (au.call hI))).mono ?_;rintro e w6 ⟨rfl,cL⟩)|(go_at_call 38;refine(BH.o _).mono ?_;rintro e w8 ⟨rfl,mo⟩));exact aP));refine DW.np ?_)|(refine DW.bt av ?_;intro wd hI;obtain⟨ae,ay,ai,aj,aq,az⟩:=SS.o wd hI;go_wp2_with (first|(go_at_call 39;refine(yl.o _ (K2.call (au.call hI))).mono ?_;rintro e w6 ⟨rfl,cL⟩)|(go_at_call 38;refine(BH.o _).mono ?_;rintro e w8 ⟨rfl,mo⟩));refine cu hI SS (λbf SS=> ?_) rfl;obtain⟨au,br,aB,aC,aF,aX⟩:=SS.o _ (ad.refl _)))
       refine DW.nl SS ?_;rintro wd hI ⟨ae,ay,ai,aj,aq,az⟩;have dC:=aa (ad.own pM.o (show ad wr wd from ay));go_wp2_with fail
       go_roundw
       case rel=>first|exact⟨U+1,l,_,rfl,ab,aA,by rw[hn.o];exact hl,by rw[hn.o];exact dC,ae⟩|((repeat apply R7);exact⟨⟨U+1,l,_,rfl,ab,aA,by rw[hn.o];exact hl,by rw[hn.o];exact dC,ae⟩,rfl⟩)
       case measure=>simp[intOf];omega
     ·obtain rfl:U=n2:=ab;rw[HFU.o]at hl pM;go_wp2_with fail
      go_roundw
      case rel=>first|exact⟨k+1,l,_,rfl,ab,aA,by rw[vB.o];exact hl,by rw[vB.o];exact pM,nT⟩|((repeat apply R7);exact⟨⟨k+1,l,_,rfl,ab,aA,by rw[vB.o];exact hl,by rw[vB.o];exact pM,nT⟩,rfl⟩)
      case measure=>simp[intOf];omega
   ·have j1:=aa (qjz (full:=full) hy uU);have q2:=kr.af q1;have z0:=kr.af e0;have dys:(((y:Nat):Int)==s)=false:=by simpa using λe=>uU e.symm
    clear fE hy uU;go_wp2_with fail
    go_loopw [8,11] (λov iv w9=>∃ v:Value,ov=v/\iv= .int .i64 0/\ad w2 w9/\ag (w9.ownsRow w2.heap.size 63 2 v l (hQ (nS NS s full k)))) (λ_ _ _=>0)
    case atStart=>exact⟨_,rfl,rfl,kr,HO⟩
    case round=>
     obtain⟨v,rfl,rfl,nT,pM⟩:=hrel;have q3:=nT.af q1;have z0:=nT.af e0;go_wp2_with fail
     go_roundw
     case rel=>first|exact⟨k+1,l,_,rfl,ab,aA,by rw[j1.o];exact hl,by rw[j1.o];exact pM,nT⟩|((repeat apply R7);exact⟨⟨k+1,l,_,rfl,ab,aA,by rw[j1.o];exact hl,by rw[j1.o];exact pM,nT⟩,rfl⟩)
     case measure=>simp[intOf];omega
  ·obtain rfl:k=L:=ab;obtain⟨A5,c4,rfl,cT⟩:=dL.bp HO.o;have qjE:=aa cT;clear cT;go_wp2_with fail
   go_ret;exact⟨A5,l,c4,rfl,by rw[Zu.o];exact qjE.o,K2.call kr⟩
theorem fm.un {w:World} {rv ov pv:Value} {es:List Nat} {os ps:List Int} (h:fm w rv ov pv es os ps):∃ A n1 c1 B n2 c2 C c3,rv= .slice A n1 c1/\ov= .slice B n2 c2/\pv= .slice C ps.length c3/\fY w A n1 c1 B n2 c2 C ps.length c3 (bw es) os ps:=by
 obtain⟨A,B,C,n1,c1,n2,c2,c3,hh,hr⟩:=h.mu;injection hh with hh;have jl:=congrArg Array.toList hh;simp only[List.cons.injEq,and_true]at jl;obtain⟨rfl,rfl,rfl⟩:=jl;exact⟨A,n1,c1,B,n2,c2,C,c3,rfl,rfl,rfl,hr⟩
section
variable {rv ov pv:Value} {es:List Nat} {os ps:List Int} {w:World}
theorem qjF (a s:Int) (h:fm w rv ov pv es os ps) (hf:eA es os ps ps.length):
  Calls Tryz.prog 14 #[.agg #[rv,ov,pv],.int .i64 a,.int .i64 s] w λe w'=>∃ D n4 c4,e= .returned (.slice D n4 c4)/\dL w' D n4 c4 (xz es os ps ps.length a s)/\ad w w':=by
 obtain⟨A,n1,c1,B,n2,c2,C,c3,rfl,rfl,rfl,hr⟩:=h.un;exact qjB A B C n1 c1 n2 c2 _ c3 es os ps a s w hr hf
theorem qjG (h:fm w rv ov pv es os ps) (hf:eA es os ps ps.length):
  Calls Tryz.prog 16 #[.agg #[rv,ov,pv]] w λe w'=>e= .returned (.bool true)/\ad w w':=by
 obtain⟨A,n1,c1,B,n2,c2,C,c3,rfl,rfl,rfl,hr⟩:=h.un;have:=Zr A B C n1 c1 n2 c2 _ c3 es os ps w hr hf.fit;rwa [Pp hf.tree]at this
theorem qjH (k:ByteArray) (h:fm w rv ov pv es os ps) (hf:eA es os ps ps.length):
  Calls Tryz.prog 17 #[.agg #[rv,ov,pv],.string k] w λe w'=>∃ r:Int,e= .returned (.int .i64 r)/\0<=r/\ad w w':=by
 obtain⟨A,n1,c1,B,n2,c2,C,c3,rfl,rfl,rfl,hr⟩:=h.un;exact qi' A B C n1 c1 n2 c2 _ c3 es os ps k w hr hf.fit
theorem qjI (s:Nat) (hs:s<6) (h:fm w rv ov pv es os ps) (hf:eA es os ps ps.length):
  Calls Tryz.prog 18 #[.agg #[rv,ov,pv],.int .i64 s] w λe w'=>∃ D n c,e= .returned (.slice D n c)/\dL w' D n c (lE es os s)/\ad w w':=by
 obtain⟨A,n1,c1,B,n2,c2,C,c3,rfl,rfl,rfl,hr⟩:=h.un;have hn:n1=es.length+1:=by have:=hr.rs.1;rw[ju]at this;omega
 refine(qi8 A B C n1 c1 n2 c2 _ c3 es os ps s w hs hr hf.fit).mono ?_;rintro e w' ⟨D,c4,b0,rfl,ho,k⟩;obtain⟨A9,lQ,h9,h8⟩:=dL.bp ho;injection h9 with q1 q2 q3;subst q1 q3;refine⟨D,_,c4,rfl,?_,k⟩;unfold lE;rw[<- hn];exact h8
end
theorem Zx (D:Option Addr) (n c:Nat) (rs:List Rg) (k:ByteArray) (w:World) (h:dL w D n c rs) (ho:b4 rs k):
  Calls Tryz.prog 15 #[.slice D n c,.string k] w λe w'=>∃ r:Int,e= .returned (.int .i64 r)/\0<=r/\ad w w':=
 (Qt D n c rs k w h).mono λe w' ⟨r,h1,h2,h3⟩=>⟨r,h1,(Ab h2).2 ho,h3⟩
theorem qjJ {g:aG} {a b:Nat} {k:ByteArray} (hu:Up g.es) (h:Bw g a b k):b4 (xz g.es g.os g.ps g.n a b) k:=by
 obtain⟨f,hf⟩:=h;unfold iO k7 at hf;obtain⟨h1,h2⟩:=List.mem_filter.1 hf;unfold xz;rw[if_pos (by unfold ints;exact List.mem_map.2 ⟨b,h1,rfl⟩)];refine(qcK hu g.os _ k).2 ?_;unfold nh at h2;simp only[Bool.not_or,Bool.and_eq_true]at h2;rw[Sg];simpa using h2.2
theorem qjK {w:World} {B:Int} {gb:Nat} {g:aG} (h:aT w B gb g) {s:Nat} (hs:s<g.n) {l:List aD} (hl:j0 (g.σ s).L l) {d:aD} (hd:d∈l):b4 (g.σ s).own d.key:=by
 obtain⟨V,_,mE⟩:=h;obtain⟨hk,aN,_⟩:=(hl.mem d).1 hd;obtain⟨C,_,hc⟩:=(mE.bi s hs).sh.fz;obtain⟨h1,h2⟩:=hc d.key hk;refine(h2 λhn=>aN ?_).1;rw[hn]at h1;have h3:=h1.row;obtain⟨A,c,h4,_,_,h5,_⟩:=h3;have h4:(Value.slice none 0 0:Value)= .slice A ((g.σ s).L d.key).length c:=h4;injection h4 with q1;exact(h5 q1.symm).1
theorem sT.n_ {B:Int} {P:Nat->my->Prop} {g g':aG} {o:ee} {k c s t:Nat} {aH:List Nat} {aJ a':List Int} {er:Int} {fl:List ax} (h:sT B P g o k c s t aH aJ a' er fl g') (h1:1<=k) (h2:k<=12):g'.n=g.n:=by
 rcases(by omega:k=1∨k=2∨k=3∨k=4∨k=5∨k=6∨k=7∨k=8∨k=9∨k=10∨k=11∨k=12)with rfl|rfl|rfl|rfl|rfl|rfl|rfl|rfl|rfl|rfl|rfl|rfl
 ·obtain⟨i,_,h⟩:=h;rcases h with ⟨_,_,rfl,_⟩|⟨_,_,v,σ',ev,p',_,_,_,_,_,_,_,_,_,rfl⟩ <;>rfl
 ·obtain⟨i,_,h⟩:=h;rcases h with ⟨_,_,rfl,_⟩|⟨_,_,v,σ',ev,p',_,_,_,_,_,_,_,_,_,rfl⟩ <;>rfl
 ·obtain⟨i,_,h⟩:=h;rcases h with ⟨_,_,rfl,_⟩|⟨_,_,x,b,ev,_,_,_,_,_,_,_,⟨_,_,rfl⟩|⟨_,_,p',_,rfl⟩⟩ <;>rfl
 ·obtain⟨_,_,rfl⟩:=h;rfl
 ·obtain⟨_,h⟩:=h;rcases h with ⟨_,rfl⟩|⟨_,_,_,_,rfl⟩ <;>rfl
 ·obtain⟨i,_,h⟩:=h;rcases h with ⟨_,_,rfl⟩|⟨_,_,lH,b,rfl⟩ <;>rfl
 ·obtain⟨i,_,h⟩:=h;rcases h with ⟨_,_,lH,rfl⟩|⟨_,ds,low,p',bM,lH,pa,pn,pc,_,_,_,_,_,_,_,rfl⟩ <;>rfl
 ·rcases h with ⟨_,_,rfl⟩|⟨_,_,_,_,⟨_,_,rfl⟩|⟨_,_,_,v,yt,σ',_,_,_,_,_,_,_,_,rfl⟩⟩ <;>rfl
 ·obtain⟨_,h⟩:=h;rcases h with rfl|⟨_,_,rfl⟩ <;>rfl
 ·rcases h with ⟨_,_,rfl⟩|⟨_,i,x,σ',_,_,_,_,rfl⟩ <;>rfl
 ·obtain⟨_,_,σ',_,rfl⟩:=h;rfl
 ·obtain⟨_,h,_⟩:=h;rcases h with ⟨_,rfl⟩|⟨_,hn,_,_,_,_,l,σ',_,_,rfl⟩
  ·rfl
  ·exact hn
theorem aT.below {w:World} {B:Int} {gb:Nat} {g:aG} (h:aT w B gb g) (hf:bN g.w0 w):ad g.w0 w:=by
 obtain⟨V,_,mE⟩:=h;have hb:=mE.old.below hf;exact⟨hb.os,hb.tape,hb.output,hb.size,hb.block⟩
theorem qjL (B:Int) (P:Nat->Nat->Nat->my->Prop) (gb:Nat) (g:aG) (o:ee) (n:Nat) (W:World) (h:aT W B gb g) (s9:∀ a b,de g.n a b=true->∀ U d,(g.st a b).T[U]? =some d->uc B (P a b U) d) (hB:0<=B) (h9:B+2<=900) (hk:ad g.w0 W) (ho:ux n W o) (hn:g.n=n) (cp:2<=n):
  Calls Tryz.prog 9 #[.pointer (some ⟨gb,0,none⟩),dx o] W λe w'=>∃ er fv fl g',e= .returned (gm er fv)/\Rw w' 48 6 a8 fv fl/\aT w' (B+2) gb g'/\g'.w0=g.w0/\g'.n=g.n/\bN W w'/\ad g.w0 w'/\
   ∃ (k c s t:Nat) (aH:List Nat) (aJ a':List Int),o.k=k/\1<=k/\k<=12/\c<4/\o.c=c/\o.s=s/\o.t=t/\Let o.key/\(sT B (P s t) g o k c s t aH aJ a' er fl g'∨er≠0/\fl=[]/\g'=g/\(g.ss c).1= -1):=by
 obtain⟨k,c,s,t,keys,d1,d2,d3,d4,d5,d6,d7,d8,d9,d10,d11,d12,d13,d14,d15,_⟩:=ho
 obtain⟨aH,aJ,a',bR⟩:∃ aH aJ a',k=12->fm W o.rv o.ov o.pv aH aJ a'/\YG g.n aH aJ a':=by
  by_cases yC:k=12
  ·obtain⟨es,os,ps,q1,q2,q3,q4,q5,q6,q7⟩:=d15 yC;exact⟨es,os,ps,λ_=>⟨⟨q1,q2,q3⟩,.inl ⟨by rw[hn];exact q7 ab,q4⟩⟩⟩
  ·exact⟨[],[],[],λe=>absurd e yC⟩
 refine(OS B (P s t) gb g o k c s t keys aH aJ a' W h hB h9 d1 d2 d3 d4 d5 d6 d8 ab ab d10 d11 d12 d13 d14 (λhf=>s9 s t hf) bR).mono ?_;rintro e w' ⟨er,fv,fl,g',rfl,r1,r2,r3,r4⟩;have e0:g'.w0=g.w0:=r3.elim (λh=>h.base d2 d3) λh=>by rw[h.2.2.1]
 have e1:g'.n=g.n:=r3.elim (λh=>h.n_ d2 d3) λh=>by rw[h.2.2.1]
 refine⟨er,fv,fl,g',rfl,r1,r2,e0,e1,r4,?_,k,c,s,t,aH,aJ,a',d1,d2,d3,d5,d4,d6,d8,d10,r3⟩;have:=r2.below (by rw[e0];exact(Fr.ar hk).trans r4);rwa [e0]at this
end Go.Proofs.YtehaoggjlciobaaGreat
