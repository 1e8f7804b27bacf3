/- Contracts of the functions that the law reaches, and plain laws; no conditions but those written at each. -/
import Derived.Test.YtlmllmonabafjaaGreatDoorMg10
namespace Go.Proofs.YtlmllmonabafjaaGreatDoor
open Go.Value renaming bool->μ,slice->δ,pointer->π,agg->θ
open Go.IntKind renaming i64->ι,u8->υ,u16->φ,u32->ω,i32->χ,u64->ψ
open _root_.Go.Proofs.Tryz
set_option linter.unusedSimpArgs false
set_option maxHeartbeats 8000000
set_option linter.unusedVariables false
open Go.RowKit
set_option maxRecDepth 100000
structure LoJ (w0 w:World) (R:Nat) (C:Nat->Prop) (v:Value) (acc:List Int) (s:RdS):Prop where
 rd:qu w R s.1 s.2 C
 row:w.ownsRow w0.heap.size 39 1 v acc.length (acc.map (Value.int .u16))
 away:qg (λb=>b=R) w0 w
 hC: ∀g,C g->g<w0.heap.size
 hR:R<w0.heap.size
section
variable {w0 w w':World} {R:Nat} {C:Nat->Prop} {v v':Value} {acc acc':List Int} {s s':RdS}
theorem LoJ.read (h:LoJ w0 w R C v acc s) (r:qu w' R s'.1 s'.2 C) (a:qg (λb=>b=R) w w'):LoJ w0 w' R C v acc s':=⟨r,XC h.row a (λb d e=>by have:=jG h.row d;have:=h.hR;omega),h.away.trans a,h.hC,h.hR⟩
theorem LoJ.on (h:LoJ w0 w R C v acc s) (m:qa w w'):LoJ w0 w' R C v acc s:=⟨h.rd.more m,jE h.row m,h.away.more m,h.hC,h.hR⟩
theorem LoJ.put (h:LoJ w0 w R C v acc s) (O:w'.ownsRow w0.heap.size 39 1 v' acc'.length (acc'.map (Value.int .u16))) (d:w.grownBy w' v.ownBlock):LoJ w0 w' R C v' acc' s:=by
 have I: ∀g,v.ownBlock=some g->w0.heap.size<=g:=λg e=>jG h.row e
 have H:=h.away.size;have a:qg (λb=>v.ownBlock=some b) w w':=⟨d.os,d.tape,d.output,d.size,λk G H=>d.block k G (λe=>H e.symm)⟩;refine⟨h.rd.off a (λe=>by have:=I R e;have:=h.hR;omega) (λg J e=>by have:=I g e;have:=h.hC g J;omega),O, ?_,h.hC,h.hR⟩
 exact⟨a.os.trans h.away.os,a.tape.trans h.away.tape,a.output.trans h.away.output,Nat.le_trans H a.size,λk G N=>by
  rw[a.block k (Nat.lt_of_lt_of_le G H) (λe=>by have:=I k e;omega)]
  exact h.away.block k G N⟩
end
theorem uJ {n:Nat} {acc:List Int} {s:RdS} (h: ¬s.1=[]):jc (n+1) acc s=jc n (acc++prN (prS s).1) (gm acc (prS s).1 (prS s).2):=by
 show (if s.1=[] then _ else _)=_;rw[if_neg h]
theorem VD (acc:List Int) (p:Int×Int) (s:RdS):(gm acc p s).1.length<=s.1.length:=by
 unfold gm;split
 ·exact vH s 2
 ·exact Nat.le_refl _
theorem WK {s:RdS} (h: ¬s.1=[]):(prS s).2.1.length+1<=s.1.length:=by
 have d:=List.length_pos_iff.2 h;have e:(prS s).2.1=(s.1.drop 2).drop 2:=rfl;rw[e,List.length_drop,List.length_drop];omega
theorem yd {w:World} {R:Nat} {l:List Int} {e:Int} {C:Nat->Prop} (h:qu w R l e C):
  Calls prog 57 #[γ R] w λd w'=>d= .returned (ι l.length)/\w=w':=(zn h).mono λ_ _ ⟨a,b⟩=>⟨a,b.symm⟩
theorem Xx {w:World} {base e g k c:Nat} {acc:List Int} (h:w.ownsRow base e 1 (δ (some ⟨g,0,none⟩) (k+1) c) acc.length (acc.map (Value.int .u16))) (d:acc.length=k+1):w.cell? ⟨g,k,none⟩=some (φ (acc.getD k 0)):=by
 rw[d] at h;rw[h.cellAt k τ,List.getElem?_map,List.getD_eq_getElem?_getD,List.getElem?_eq_getElem τ];rfl
theorem Bq (p:Int×Int):1<=(prN p).length/\(prN p).length<=17:=WM p
theorem Y6 {w:World} {R:Nat} {s0:RdS} {aM:Nat->Prop} (h:qu w R s0.1 s0.2 aM) (hR:R<w.heap.size):
  Calls prog 308 #[γ R] w λe w'=> ∃v',e= .returned v'/\LoJ w w' R (λg=>aM g/\g<w.heap.size) v' (jc s0.1.length [] (xK s0)).1 (jc s0.1.length [] (xK s0)).2:=by
 obtain⟨bd,hi,ba,bb,bc⟩:=info_parts (P:=prog) (e:=39) (z:= φ 0) (size:=1) (bytes:=2) ξ;obtain⟨C,aH⟩: ∃C:Nat->Prop,C=λg=>aM g/\g<w.heap.size:=⟨_,rfl⟩
 have bp:qu w R s0.1 s0.2 C:=by rw[aH];exact h.old
 have bi:Hid (∀g,C g->g<w.heap.size):=κ (by rw[aH];exact λg h=>h.2);rw[<-aH];have bS:=h.small;have aU:=κ bp;clear aH h bp;have bl:=κ (λw' (r:qu w' R s0.1 s0.2 C)=>zo (s:=s0) r 2)
 go_enter func308,ntmps308
 go_upto_if 7 with (go_at_call 57;(go_call yd aU.o as e w9 ⟨rfl,rfl⟩))
 go_cut [] from 7 to 9 (λbJ=>LoJ w bJ R C (δ none 0 0) [] (xK s0))
 case first=>
  by_cases hs:s0.1.length=0
  ·have bs:((s0.1.length:Int)==0)=true:=eqB τ;have an:xK s0=wrS s0 2:=by unfold xK;rw[if_pos hs]
   have aO:=κ an;clear an hs
   go_wp2_with (first | (go_at_call 55;(go_call bl.o _ aU.o as e H ⟨rfl,J,a3⟩;have U:Hid (LoJ w H R C (δ none 0 0) [] (xK s0)):=κ (by rw[aO.o];exact⟨J,World.ownsRow_nil _ _ _ _,a3,bi.o,hR⟩);clear J a3)))
   go_meet;exact U.o
  ·have bs:((s0.1.length:Int)==0)=false:=neB τ;have an:xK s0=s0:=by unfold xK;rw[if_neg hs]
   have aO:=κ an;clear an hs;go_wp2;go_meet;rw[aO.o];exact⟨aU.o,World.ownsRow_nil _ _ _ _,qg.refl _ _,bi.o,hR⟩
 case rest=>
 have bF:=κ hcut;clear hcut bl;have an:(xK s0).1.length<=s0.1.length:=by
  unfold xK;split
  ·exact vH _ _
  ·exact Nat.le_refl _
 go_wp2_with fail
 go_loopw [3] (λv wr=> ∃acc s n,LoJ w wr R C v acc s/\s.1.length<=n/\jc n acc s=jc s0.1.length [] (xK s0)/\acc.length+17* s.1.length<=17* s0.1.length/\(∀x∈acc,U16 x)) (λv _=>17* s0.1.length-QO v)
 case atStart=>exact⟨[],xK s0,s0.1.length,bF.o,an,rfl,by simp;omega,λx ao=>by cases ao⟩
 case round=>
  obtain⟨acc,s,n,aX,bR,aq,bQ,bt⟩:=hrel;have aE:=κ bt;clear bt;have N:=κ aX;have bj:=κ aq;obtain⟨bT,bI,bL,rfl,aC,bH⟩:=qT aX.row;have bD:=κ aC;clear aX aq bH;by_cases hs:s.1=[]
  ·have aq:=bj.o;obtain⟨l,e⟩:=s;simp only at hs;subst hs;rw[wE] at aq;have bC:=κ aq;clear aq aC
   go_wp2_with (go_at_call 57;(go_call yd N.o.rd as e w9 ⟨rfl,rfl⟩))
   go_ret;exact⟨_,rfl,by rw[<-bC.o];exact N.o⟩
  ·have bs:=VK hs;have aI:=WK hs;have br:=N.o.rd.byt;obtain⟨be,bf,-⟩:=DZ br;obtain⟨n,rfl⟩: ∃k,n=k+1:=⟨n-1,by have:=List.length_pos_iff.2 hs;omega⟩;have aD:Hid (jc n (acc++prN (prS s).1) (gm acc (prS s).1 (prS s).2)=jc s0.1.length [] (xK s0)):=κ (by rw[<-uJ hs];exact bj.o);have aN:=κ aI;have aJ:=VD acc (prS s).1 (prS s).2;obtain⟨d,aY⟩: ∃X,num (tkB s.1 2)=X:=⟨_,rfl⟩;obtain⟨G,aZ⟩: ∃X,num (tkB (tkS s 2).1 2)=X:=⟨_,rfl⟩;have aR:=κ aY;have aS:=κ aZ;have bq:(prS s).1=(d,G):=by rw[<-aY,<-aZ];rfl
   rw[bq] at aD aJ be bf;have am:=κ be;have aV:=κ bf;have O:=κ (Bq (d,G));clear br hs aY aZ bq be bf;have bE:=κ (λw' (r:qu w' R (prS s).2.1 (prS s).2.2 C)=>zo (s:=(prS s).2) r 2);by_cases ha:acc=[]
   ·subst ha;have e:gm [] (d,G) (prS s).2=(prS s).2:=by unfold gm;rw[if_neg (λh=>h.1 rfl)]
    have av:Hid (jc n ([]++prN (d,G)) (prS s).2=jc s0.1.length [] (xK s0)):=κ (by rw[<-e];exact aD.o);have ae:Hid ((prS s).2.1.length+1<=s.1.length):=aN;obtain rfl:bI=0:=aC;clear e aJ aI
    go_wp2_with (first | (go_at_call 57;(go_call yd N.o.rd as e w9 ⟨rfl,rfl⟩)) | (go_at_call 53;((with_reducible refine(xn N.o.rd).mono ?_);rintro e w2 ⟨rfl,ak,af⟩;rw[aR.o];have Y:=κ (N.o.read (s':=tkS s 2) ak af);clear ak af)) | (go_at_call 53;((with_reducible refine(xn Y.o.rd).mono ?_);rintro e H ⟨rfl,J,a3⟩;rw[aS.o];have U:=κ ((Y.o.read (s':=(prS s).2) J a3).on (qa.alloc H (.cells #[φ d,φ G] 483)));have aQ:=κ ((Y.o.read (s':=(prS s).2) J a3).away.size);have ad:=κ (qj H (.cells #[φ d,φ G] 483));clear J a3)))
    generalize az:H.alloc (.cells #[φ d,φ G] 483)=x3 at *;clear az;generalize H.heap.size=P3 at *;have aj:=λ(x:qt x3)=>β0 (qc x.h ad.o)
    refine qD x3 (qa.refl _) ξ ξ ?_
    repeat (go_big_quiet_step (fail))
    refine wpQuiet_nil ?_;intro _ aA;obtain⟨I,rfl⟩:=aA;have al:=κ (U.o.on I.h);have aF:=aj I;have aG:I.w'.cell? ⟨P3,1,none⟩=some (φ G):=qb (qc I.h ad.o) 1 rfl;clear aj U
    go_wp2_with (first | (go_at_call 330;(go_call QJ (d,G) _ am.o aV.o as e w6 ⟨v6,rfl,ac,ai⟩;have aa:=κ (al.o.on ai);have S6:=κ (SlI.of_owns ac (by have:=O.o.2;omega));obtain⟨bz,bw,bo,rfl,aB,-⟩:=qT ac;clear ac ai aB)) | (at_builtin;refine qU _ rfl (.tmp 35) (.tmp 37) 281 rfl w.heap.size 39 bd (φ 0) 2 underlying281 hi ba bb bc rfl _ .u16 [] rfl aa.o.row _ (prN (d,G)) rfl S6.o (by have:=O.o.2;simp only[List.length_nil] at *;omega) ζ aa.o.away.size ?_;intro v7 bB ab ag _;have ay:=κ (aa.o.put ab ag);obtain⟨bx,bv,bn,rfl,ah,-⟩:=qT ab;have ax:=κ ah;clear ab ag ah))
    go_roundw
    case rel=>exact⟨[]++prN (d,G),(prS s).2,n,ay.o,by have:=ae.o;omega,av.o,by have:=ae.o;have:=O.o.2;rw[List.length_append];simp only[List.length_nil] at *;omega,λx ao=>(List.mem_append.1 ao).elim (aE.o x) (Jw am.o x)⟩
    case measure=>have:=ax.o;have:=bD.o;have:=O.o.1;simp[QO,List.length_append] at *;omega
   ·obtain⟨k,ar⟩: ∃k,acc.length=k+1:=⟨acc.length-1,by have:=List.length_pos_iff.2 ha;omega⟩;have au:=Kn ha;rw[ar,Nat.add_sub_cancel] at au;have aK:=aE.o _ (Ci (l:=acc) (i:=k) τ);have ap:=κ ar;rw[ar] at aC;subst aC;obtain⟨g,bK,bu,bM,bN,-⟩:=AY N.o.row τ;rw[ar] at bu;cases bu;obtain⟨y,aL⟩:=ν (acc.getD k 0);rw[aL] at aK au;have bm:=κ aL;have bk:=κ (λw=>Dx y d w aK am.o);have bO:(0:Int)<(k:Int)+1:=by omega
    have bP:(k:Int)<=9223372036854775807:=by omega
    by_cases hd:0<ahd y d
    ·have e:gm acc (d,G) (prS s).2=(prS s).2:=by unfold gm;rw[if_neg (λh=>h.2 (by rw[au];exact hd))]
     have av:Hid (jc n (acc++prN (d,G)) (prS s).2=jc s0.1.length [] (xK s0)):=κ (by rw[<-e];exact aD.o);have ae:Hid ((prS s).2.1.length+1<=s.1.length):=aN;have bG:decide (0<ahd y d)=true:=decide_eq_true hd;clear e aJ aI hd ha ar au aK aL
     go_wp2_with (first | (go_at_call 57;(go_call yd N.o.rd as e w9 ⟨rfl,rfl⟩)) | (go_at_call 53;((with_reducible refine(xn N.o.rd).mono ?_);rintro e w2 ⟨rfl,ak,af⟩;rw[aR.o];have Y:=κ (N.o.read (s':=tkS s 2) ak af);clear ak af)) | (go_at_call 53;((with_reducible refine(xn Y.o.rd).mono ?_);rintro e H ⟨rfl,J,a3⟩;rw[aS.o];have U:=κ ((Y.o.read (s':=(prS s).2) J a3).on (qa.alloc H (.cells #[φ d,φ G] 483)));have aQ:=κ ((Y.o.read (s':=(prS s).2) J a3).away.size);have ad:=κ (qj H (.cells #[φ d,φ G] 483));clear J a3)))
     generalize az:H.alloc (.cells #[φ d,φ G] 483)=x3 at *;clear az
     have aw:Hid (∀x:qt x3,x.w'.cell? ⟨g,k,none⟩=some (φ y)):=κ (λx=>by
      have aW:=Xx (jE U.o.row x.h) ap.o
      rw[aW,bm.o])
     have aP:=aw.o;generalize H.heap.size=P3 at *;have aj:=λ(x:qt x3)=>β0 (qc x.h ad.o)
     refine qD x3 (qa.refl _) ξ ξ ?_
     repeat (go_big_quiet_step ((go_at_call 329;with_reducible exact kB ((bk.o _).mono λ_ _ ⟨e,h⟩=>⟨e,h.symm⟩))))
     refine wpQuiet_nil ?_;intro _ aA;obtain⟨I,rfl⟩:=aA;have al:=κ (U.o.on I.h);have aF:=aj I;have aG:I.w'.cell? ⟨P3,1,none⟩=some (φ G):=qb (qc I.h ad.o) 1 rfl;have bh:=κ (qc I.h ad.o);clear aj U aP aw;have aT:=al
     go_wp2_with (first | (go_at_call 330;(go_call QJ (d,G) _ am.o aV.o as e w6 ⟨v6,rfl,ac,ai⟩;have aa:=κ (aT.o.on ai);have S6:=κ (SlI.of_owns ac (by have:=O.o.2;omega));obtain⟨bz,bw,bo,rfl,aB,-⟩:=qT ac;clear ac ai aB)) | (at_builtin;refine qU _ rfl (.tmp 35) (.tmp 37) 281 rfl w.heap.size 39 bd (φ 0) 2 underlying281 hi ba bb bc rfl _ .u16 acc rfl aa.o.row _ (prN (d,G)) rfl S6.o (by have:=O.o.2;have:=ap.o;omega) ζ aa.o.away.size ?_;intro v7 bB ab ag _;have ay:=κ (aa.o.put ab ag);obtain⟨bx,bv,bn,rfl,ah,-⟩:=qT ab;have ax:=κ ah;clear ab ag ah))
     go_roundw
     case rel=>exact⟨acc++prN (d,G),(prS s).2,n,ay.o,by have:=ae.o;omega,av.o,by have:=ae.o;have:=O.o.2;rw[List.length_append];omega,λx ao=>(List.mem_append.1 ao).elim (aE.o x) (Jw am.o x)⟩
     case measure=>have:=ax.o;have:=ap.o;have:=O.o.1;simp[QO,List.length_append] at *;omega
    ·have e:gm acc (d,G) (prS s).2=wrS (prS s).2 2:=by unfold gm;rw[if_pos ⟨ha,by rw[au];exact hd⟩]
     have av:Hid (jc n (acc++prN (d,G)) (wrS (prS s).2 2)=jc s0.1.length [] (xK s0)):=κ (by rw[<-e];exact aD.o);have ae:Hid ((wrS (prS s).2 2).1.length+1<=s.1.length):=κ (by have:=aN.o;have:=vH (prS s).2 2;omega);have bG:decide (0<ahd y d)=false:=decide_eq_false hd;clear e aJ aI hd ha ar au aK aL
     go_wp2_with (first | (go_at_call 57;(go_call yd N.o.rd as e w9 ⟨rfl,rfl⟩)) | (go_at_call 53;((with_reducible refine(xn N.o.rd).mono ?_);rintro e w2 ⟨rfl,ak,af⟩;rw[aR.o];have Y:=κ (N.o.read (s':=tkS s 2) ak af);clear ak af)) | (go_at_call 53;((with_reducible refine(xn Y.o.rd).mono ?_);rintro e H ⟨rfl,J,a3⟩;rw[aS.o];have U:=κ ((Y.o.read (s':=(prS s).2) J a3).on (qa.alloc H (.cells #[φ d,φ G] 483)));have aQ:=κ ((Y.o.read (s':=(prS s).2) J a3).away.size);have ad:=κ (qj H (.cells #[φ d,φ G] 483));clear J a3)))
     generalize az:H.alloc (.cells #[φ d,φ G] 483)=x3 at *;clear az
     have aw:Hid (∀x:qt x3,x.w'.cell? ⟨g,k,none⟩=some (φ y)):=κ (λx=>by
      have aW:=Xx (jE U.o.row x.h) ap.o
      rw[aW,bm.o])
     have aP:=aw.o;generalize H.heap.size=P3 at *;have aj:=λ(x:qt x3)=>β0 (qc x.h ad.o)
     refine qD x3 (qa.refl _) ξ ξ ?_
     repeat (go_big_quiet_step ((go_at_call 329;with_reducible exact kB ((bk.o _).mono λ_ _ ⟨e,h⟩=>⟨e,h.symm⟩))))
     refine wpQuiet_nil ?_;intro _ aA;obtain⟨I,rfl⟩:=aA;have al:=κ (U.o.on I.h);have aF:=aj I;have aG:I.w'.cell? ⟨P3,1,none⟩=some (φ G):=qb (qc I.h ad.o) 1 rfl;have bh:=κ (qc I.h ad.o);clear aj U aP aw
     go_wp2_with (first | (go_at_call 55;(go_call bE.o _ al.o.rd as e w5 ⟨rfl,bA,a5⟩;have aT:=κ (al.o.read (s':=wrS (prS s).2 2) bA a5);have bg:=κ (a5.blk bh.o (λe=>by have:=al.o.hR;have:=aQ.o;omega));clear bA a5 aF aG;have aF:=β0 bg.o;have aG:=β1 bg.o)) | (go_at_call 330;(go_call QJ (d,G) _ am.o aV.o as e w6 ⟨v6,rfl,ac,ai⟩;have aa:=κ (aT.o.on ai);have S6:=κ (SlI.of_owns ac (by have:=O.o.2;omega));obtain⟨bz,bw,bo,rfl,aB,-⟩:=qT ac;clear ac ai aB)) | (at_builtin;refine qU _ rfl (.tmp 35) (.tmp 37) 281 rfl w.heap.size 39 bd (φ 0) 2 underlying281 hi ba bb bc rfl _ .u16 acc rfl aa.o.row _ (prN (d,G)) rfl S6.o (by have:=O.o.2;have:=ap.o;omega) ζ aa.o.away.size ?_;intro v7 bB ab ag _;have ay:=κ (aa.o.put ab ag);obtain⟨bx,bv,bn,rfl,ah,-⟩:=qT ab;have ax:=κ ah;clear ab ag ah))
     go_roundw
     case rel=>exact⟨acc++prN (d,G),(wrS (prS s).2 2),n,ay.o,by have:=ae.o;omega,av.o,by have:=ae.o;have:=O.o.2;rw[List.length_append];omega,λx ao=>(List.mem_append.1 ao).elim (aE.o x) (Jw am.o x)⟩
     case measure=>have:=ax.o;have:=ap.o;have:=O.o.1;simp[QO,List.length_append] at *;omega
theorem Ma {w:World} {base e:Nat} {v:Value} {xs:List Value} {n:Nat} (h:w.ownsRow base e 1 v n xs):(n:Int)<=9223372036854775807:=by
 rcases h.2 with ⟨_,G⟩ | ⟨g,cap,cur,_,_,_,H,d,_⟩
 ·omega
 ·unfold maxLen at d;omega
structure RdB (w0 w:World) (R:Nat) (l:List Int) (e:Int) (C:Nat->Prop) (B1 B2:Nat) (z cs:Array Value) (T:Nat):Prop where
 rd:qu w R l e (λg=>C g/\g<w0.heap.size)
 away:qg (λb=>b=R) w0 w
 b1:w.heap[B1]? =some (.cells z T (0,0))
 b2:w.heap[B2]? =some (.cells cs T (0,0))
 n1:w0.heap.size<=B1
 n2:B1<B2
 hR:R<w0.heap.size
theorem RdB.new {w:World} {R:Nat} {l:List Int} {e:Int} {C:Nat->Prop} (z:Array Value) (T:Nat) (h:qu w R l e C):RdB w ((w.alloc (.cells z T)).alloc (.cells z T)) R l e C w.heap.size (w.heap.size+1) z z T:=
 ⟨(h.old.more (qa.alloc _ _)).more (qa.alloc _ _),qg.of_more ((qa.alloc _ _).al _),qs (qj w _) _,qC η,Nat.le_refl _,Nat.lt_succ_self _,by obtain⟨v,d,_⟩:=h.blk;exact qn d⟩
theorem RdB.step {d w w':World} {R:Nat} {l l':List Int} {e I:Int} {C:Nat->Prop} {G H:Nat} {z cs:Array Value} {T:Nat} (h:RdB d w R l e C G H z cs T) (r:qu w' R l' I (λg=>C g/\g<d.heap.size)) (a:qg (λb=>b=R) w w'):RdB d w' R l' I C G H z cs T:=
 ⟨r,h.away.trans a,a.blk h.b1 (by have:=h.n1;have:=h.hR;omega),a.blk h.b2 (by have:=h.n1;have:=h.n2;have:=h.hR;omega),h.n1,h.n2,h.hR⟩
theorem VX {d w:World} {R B:Nat} (h:qg (λb=>b=R) d w) (I:d.heap.size<=B) (o:Nat) (v:Value):qg (λb=>b=R) d (w.setCell ⟨B,o,none⟩ v):=by
 have a:qg (λb=>b=B) w (w.setCell ⟨B,o,none⟩ v):=(qg.refl (λb=>b=B) w).set (p:=⟨B,o,none⟩) rfl v;exact⟨a.os.trans h.os,a.tape.trans h.tape,a.output.trans h.output,Nat.le_trans h.size a.size,λk G H=>by rw[a.block k (Nat.lt_of_lt_of_le G h.size) τ];exact h.block k G H⟩
theorem RdB.store {H w:World} {R:Nat} {l:List Int} {e:Int} {C:Nat->Prop} {G d:Nat} {z cs:Array Value} {T:Nat} (h:RdB H w R l e C G d z cs T) (i:Nat) (v:Value):RdB H (w.setCell ⟨d,i,none⟩ v) R l e C G d z (cs.setIfInBounds i v) T:=by
 have I:=h.n1;have J:=h.n2;have N:=h.hR;have a:qg (λb=>b=d) w (w.setCell ⟨d,i,none⟩ v):=(qg.refl (λb=>b=d) w).set (p:=⟨d,i,none⟩) rfl v;exact⟨h.rd.off a τ (λg O e=>by omega),VX h.away τ i v,a.blk h.b1 τ,qp h.b2 i v,h.n1,h.n2,h.hR⟩
theorem RdB.fill {H w:World} {R:Nat} {l:List Int} {e:Int} {C:Nat->Prop} {d G:Nat} {z cs:Array Value} {T:Nat} (h:RdB H w R l e C d G z cs T) (i:Nat) (v:Value):RdB H (w.setCell ⟨d,i,none⟩ v) R l e C d G (z.setIfInBounds i v) cs T:=by
 have I:=h.n1;have J:=h.n2;have N:=h.hR;have a:qg (λb=>b=d) w (w.setCell ⟨d,i,none⟩ v):=(qg.refl (λb=>b=d) w).set (p:=⟨d,i,none⟩) rfl v;exact⟨h.rd.off a τ (λg O e=>by omega),VX h.away τ i v,qp h.b1 i v,a.blk h.b2 τ,h.n1,h.n2,h.hR⟩
theorem kp {s:RdS} (h:Byt s.1):U32 (xP s):=by
 have:=zv (tkB s.1 4) 4 (jL h 4) (zh s.1 4 ζ) ζ;unfold xP;exact⟨this.1,τ⟩
theorem At (q:Int):IntKind.i32.wrap q=(q+2147483648)%4294967296-2147483648:=by
 unfold IntKind.wrap;simp[IntKind.bits,IntKind.signed]
 try omega
theorem Kx {w:World} {R:Nat} {s:RdS} {C:Nat->Prop} (h:qu w R s.1 s.2 C):
  Calls prog 304 #[γ R] w λe w'=>e= .returned (θ #[ω (jA s).1.sec,ω (jA s).1.frac,ω (jA s).1.stamp,ω (jA s).1.pkts,ω (jA s).1.octs])/\qu w' R (jA s).2.1 (jA s).2.2 C/\qg (λb=>b=R) w w':=by
 obtain⟨L,E⟩:=s;simp only at h;have O:=RdB.new #[ω 0,ω 0,ω 0,ω 0,ω 0] 286 h;have ac:=h.byt;have ag:jA (L,E)=(⟨num (tkB L 4),num (tkB (tkL L 4) 4),num (tkB (tkL (tkL L 4) 4) 4),num (tkB (tkL (tkL (tkL L 4) 4) 4) 4),num (tkB (tkL (tkL (tkL (tkL L 4) 4) 4) 4) 4)⟩,((tkL (tkL (tkL (tkL (tkL L 4) 4) 4) 4) 4),(tkE (tkL (tkL (tkL (tkL L 4) 4) 4) 4) 4 (tkE (tkL (tkL (tkL L 4) 4) 4) 4 (tkE (tkL (tkL L 4) 4) 4 (tkE (tkL L 4) 4 (tkE L 4 E))))))):=rfl;have N:=κ ag;clear ag;have ad:Byt (tkL L 4):=ac.drop _;generalize aC:num (tkB L 4)=n0 at *;generalize ap:tkE L 4 E=E1 at *;generalize aw:tkL L 4=L1 at *;have ae:Byt (tkL L1 4):=ad.drop _;generalize aD:num (tkB L1 4)=n1 at *;generalize aq:tkE L1 4 E1=E2 at *;generalize ax:tkL L1 4=L2 at *;have af:Byt (tkL L2 4):=ae.drop _;generalize aE:num (tkB L2 4)=n2 at *;generalize ar:tkE L2 4 E2=E3 at *;generalize ay:tkL L2 4=L3 at *;have aB:Byt (tkL L3 4):=af.drop _;generalize aF:num (tkB L3 4)=n3 at *;generalize au:tkE L3 4 E3=E4 at *;generalize az:tkL L3 4=L4 at *;generalize aG:num (tkB L4 4)=n4 at *;generalize av:tkE L4 4 E4=E5 at *;generalize aA:tkL L4 4=L5 at *;clear ac ad ae af aB
 go_enter func304,ntmps304
 go_wp2_with first | (go_at_call 54;((with_reducible refine(jD O.rd).mono ?_);rintro e w10 ⟨rfl,aH,a0⟩;have G:=O.step aH a0;rw[aw,ap] at G;rw[aC];have U:=G.store 0 (ω n0);have aM:=β0 G.b2;have aR:=qd G.b2 0)) | (go_at_call 54;((with_reducible refine(jD U.rd).mono ?_);rintro e aW ⟨rfl,aI,ai⟩;have H:=U.step aI ai;rw[ax,aq] at H;rw[aD];have Y:=H.store 1 (ω n1);have c1:=β1 H.b2;have aS:=qd H.b2 1)) | (go_at_call 54;((with_reducible refine(jD Y.rd).mono ?_);rintro e aX ⟨rfl,aJ,aj⟩;have I:=Y.step aJ aj;rw[ay,ar] at I;rw[aE];have aa:=I.store 2 (ω n2);have c2:=β2 I.b2;have aT:=qd I.b2 2)) | (go_at_call 54;((with_reducible refine(jD aa.rd).mono ?_);rintro e aY ⟨rfl,aK,a3⟩;have J:=aa.step aK a3;rw[az,au] at J;rw[aF];have ab:=J.store 3 (ω n3);have c3:=β3 J.b2;have aU:=qd J.b2 3)) | (go_at_call 54;((with_reducible refine(jD ab.rd).mono ?_);rintro e aZ ⟨rfl,aL,a4⟩;have d:=ab.step aL a4;rw[aA,av] at d;rw[aG];have ah:=d.store 4 (ω n4);have c4:=β4 d.b2;have aV:=qd d.b2 4;have aN:=β0 d.b2;have aO:=β1 d.b2;have aP:=β2 d.b2;have aQ:=β3 d.b2;have ak:=β0 d.b1;have z0:=qd d.b1 0;have al:=β1 d.b1;have ba:=qd d.b1 1;have am:=β2 d.b1;have bb:=qd d.b1 2;have an:=β3 d.b1;have z3:=qd d.b1 3;have ao:=β4 d.b1;have z4:=qd d.b1 4))
 (refine bodyPost_ret (v:= θ #[ω n0,ω n1,ω n2,ω n3,ω n4]) ?rr1 rfl ?_;(case rr1=>(simp[results,results304,go_sem,ak,al,am,an,ao])))
 have Z:=(((((ah.fill 0 (ω n0)).fill 1 (ω n1)).fill 2 (ω n2)).fill 3 (ω n3)).fill 4 (ω n4));exact⟨by rw[N.o],by rw[N.o];exact Z.rd.mono λg h=>h.1,Z.away⟩
theorem Kz {w:World} {R:Nat} {s:RdS} {C:Nat->Prop} (h:qu w R s.1 s.2 C):
  Calls prog 305 #[γ R] w λe w'=>e= .returned (θ #[ω (qM s).1.src,υ (qM s).1.part,χ (qM s).1.miss,ω (qM s).1.high,ω (qM s).1.jit,ω (qM s).1.last,ω (qM s).1.dly])/\qu w' R (qM s).2.1 (qM s).2.2 C/\qg (λb=>b=R) w w':=by
 obtain⟨L,E⟩:=s;simp only at h;have aa:=RdB.new Γe 473 h;have ah:=h.byt;have an:qM (L,E)=(⟨num (tkB L 4),num (tkB (tkL L 4) 1),sgd (num (tkB (tkL (tkL L 4) 1) 3)) 24,num (tkB (tkL (tkL (tkL L 4) 1) 3) 4),num (tkB (tkL (tkL (tkL (tkL L 4) 1) 3) 4) 4),num (tkB (tkL (tkL (tkL (tkL (tkL L 4) 1) 3) 4) 4) 4),num (tkB (tkL (tkL (tkL (tkL (tkL (tkL L 4) 1) 3) 4) 4) 4) 4)⟩,((tkL (tkL (tkL (tkL (tkL (tkL (tkL L 4) 1) 3) 4) 4) 4) 4),(tkE (tkL (tkL (tkL (tkL (tkL (tkL L 4) 1) 3) 4) 4) 4) 4 (tkE (tkL (tkL (tkL (tkL (tkL L 4) 1) 3) 4) 4) 4 (tkE (tkL (tkL (tkL (tkL L 4) 1) 3) 4) 4 (tkE (tkL (tkL (tkL L 4) 1) 3) 4 (tkE (tkL (tkL L 4) 1) 3 (tkE (tkL L 4) 1 (tkE L 4 E))))))))):=rfl;have Y:=κ an;clear an;have ai:Byt (tkL L 4):=ah.drop _;generalize aR:num (tkB L 4)=n0 at *;generalize aC:tkE L 4 E=E1 at *;generalize aJ:tkL L 4=L1 at *;have U:Byt (tkL L1 1):=ai.drop _;generalize aS:num (tkB L1 1)=n1 at *;generalize aD:tkE L1 1 E1=E2 at *;generalize aK:tkL L1 1=L2 at *;have am:=zv (tkB L2 3) 3 (jL U 3) (zh L2 3 ζ) ζ;have aj:Byt (tkL L2 3):=U.drop _;generalize aT:num (tkB L2 3)=n2 at *;generalize aE:tkE L2 3 E2=E3 at *;generalize aL:tkL L2 3=L3 at *;have ba:U64 n2:=by
  unfold U64;omega
 have bz:IntKind.u64.wrap n2=n2:=by
  exact Int.emod_eq_of_lt am.1 (by show n2<18446744073709551616;omega)
 have ao:=KR n2 24 ζ ζ;have aZ:(sgd n2 24+2147483648)%4294967296-2147483648=sgd n2 24:=by
  have e:two (24-1)=8388608:=by decide
  rw[e] at ao;omega
 generalize aY:sgd n2 24=q at *;have bx:IntKind.i32.wrap q=q:=(At q).trans aZ;have ak:Byt (tkL L3 4):=aj.drop _;generalize aU:num (tkB L3 4)=n3 at *;generalize aF:tkE L3 4 E3=E4 at *;generalize aM:tkL L3 4=L4 at *;have al:Byt (tkL L4 4):=ak.drop _;generalize aV:num (tkB L4 4)=n4 at *;generalize aG:tkE L4 4 E4=E5 at *;generalize aN:tkL L4 4=L5 at *;have aQ:Byt (tkL L5 4):=al.drop _;generalize aW:num (tkB L5 4)=n5 at *;generalize aH:tkE L5 4 E5=E6 at *;generalize aO:tkL L5 4=L6 at *;generalize aX:num (tkB L6 4)=n6 at *;generalize aI:tkE L6 4 E6=E7 at *;generalize aP:tkL L6 4=L7 at *;clear ah ai U aj ak al aQ ao am
 go_enter func305,ntmps305
 go_wp2_with first | (go_at_call 54;((with_reducible refine(jD aa.rd).mono ?_);rintro e w10 ⟨rfl,bb,a0⟩;have G:=aa.step bb a0;rw[aJ,aC] at G;rw[aR];have ab:=G.store 0 (ω n0);have bi:=β0 G.b2;have bq:=qd G.b2 0)) | (go_at_call 52;(go_call jT ab.rd as e bA ⟨rfl,bc,aq⟩;have H:=ab.step bc aq;rw[aK,aD] at H;rw[aS];have ac:=H.store 1 (υ n1);have c1:=β1 H.b2;have br:=qd H.b2 1)) | (go_at_call 328;(go_call Je ac.rd as e bB ⟨rfl,bd,ar⟩;have I:=ac.step bd ar;rw[aL,aE] at I;rw[aT];have ad:=I.store 2 (χ q);have c2:=β2 I.b2;have bs:=qd I.b2 2)) | (go_at_call 327;(go_call U9 n2 24 ba ζ _ as e bG ⟨rfl,rfl⟩;rw[aY])) | (go_at_call 54;((with_reducible refine(jD ad.rd).mono ?_);rintro e bC ⟨rfl,be,a3⟩;have J:=ad.step be a3;rw[aM,aF] at J;rw[aU];have ae:=J.store 3 (ω n3);have c3:=β3 J.b2;have bt:=qd J.b2 3)) | (go_at_call 54;((with_reducible refine(jD ae.rd).mono ?_);rintro e bD ⟨rfl,bf,a4⟩;have N:=ae.step bf a4;rw[aN,aG] at N;rw[aV];have af:=N.store 4 (ω n4);have c4:=β4 N.b2;have bu:=qd N.b2 4)) | (go_at_call 54;((with_reducible refine(jD af.rd).mono ?_);rintro e bE ⟨rfl,bg,a5⟩;have O:=af.step bg a5;rw[aO,aH] at O;rw[aW];have ag:=O.store 5 (ω n5);have c5:=β5 O.b2;have bv:=qd O.b2 5)) | (go_at_call 54;((with_reducible refine(jD ag.rd).mono ?_);rintro e bF ⟨rfl,bh,au⟩;have d:=ag.step bh au;rw[aP,aI] at d;rw[aX];have ap:=d.store 6 (ω n6);have bj:=β6 d.b2;have bw:=qd d.b2 6;have bk:=β0 d.b2;have bl:=β1 d.b2;have bm:=β2 d.b2;have bn:=β3 d.b2;have bo:=β4 d.b2;have bp:=β5 d.b2;have av:=β0 d.b1;have z0:=qd d.b1 0;have aw:=β1 d.b1;have bH:=qd d.b1 1;have ax:=β2 d.b1;have bI:=qd d.b1 2;have ay:=β3 d.b1;have z3:=qd d.b1 3;have az:=β4 d.b1;have z4:=qd d.b1 4;have aA:=β5 d.b1;have z5:=qd d.b1 5;have aB:=β6 d.b1;have bJ:=qd d.b1 6))
 (refine bodyPost_ret (v:= θ #[ω n0,υ n1,χ q,ω n3,ω n4,ω n5,ω n6]) ?rr2 rfl ?_;(case rr2=>(simp[results,results305,go_sem,av,aw,ax,ay,az,aA,aB])))
 have Z:=(((((((ap.fill 0 (ω n0)).fill 1 (υ n1)).fill 2 (χ q)).fill 3 (ω n3)).fill 4 (ω n4)).fill 5 (ω n5)).fill 6 (ω n6));exact⟨by rw[Y.o],by rw[Y.o];exact Z.rd.mono λg h=>h.1,Z.away⟩
theorem Yv {S:Nat->Prop} {w w':World} {v:Value} {l:List Blk} (h:SlP 7 Yj w v l) (J: ∀b,v.ownBlock=some b-> ¬S b) (a:qg S w w'):SlP 7 Yj w' v l:=by
 obtain⟨aa,cap,rfl,G,H,I⟩:=h;refine⟨aa,cap,rfl,G,λi hi=> ?_,I⟩;obtain⟨b,ab,cs,rfl,d,U,N,Y⟩:=H i hi;exact⟨b,ab,cs,rfl,Nat.lt_of_lt_of_le d a.size,U,λj O=>by rw[a.cells b _ d (J b rfl)];exact N j O,Y⟩
theorem JD {w:World} {R:Nat} {s:RdS} {C:Nat->Prop} (h:qu w R s.1 s.2 C):
  Calls prog 59 #[γ R] w λd w'=>d= .returned (ι (wM s))/\w'=w:=yT h
structure RpJ (w0 w:World) (R B5:Nat) (C:Nat->Prop) (o0 o1:Obj) (xs:List Value) (v:Value) (bl:List Blk) (s:RdS):Prop where
 rd:qu w R s.1 s.2 C
 b0:w.heap[w0.heap.size]? =some o0
 b1:w.heap[w0.heap.size+1]? =some o1
 b5:w.heap[B5]? =some (.cells (xs++[v]).toArray 289 (0,0))
 row:je 7 Yj (λb=>b=R∨b=B5) w (B5+1) 473 v bl
 more:qa w0 w
 h1:w0.heap.size+1<R
 h2:R<B5
 hC: ∀g,C g->w0.heap.size+1<g/\g<B5
theorem RpJ.new {w d w4 w5:World} {R:Nat} {G H:Obj} {s:RdS} (xs:List Value) (cs:Array Value) (O:cs=(xs++[δ none 0 0]).toArray) (J:w4.heap[w.heap.size]? =some G) (N:w4.heap[w.heap.size+1]? =some H) (U:qu w5 R s.1 s.2 (λg=>d.heap.size<=g/\g<w4.heap.size)) (a5:qg (λb=>b=R) w4 w5) (I:qa w w4) (ac:w.heap.size+2<=d.heap.size) (aa:d.heap.size<=R) (ab:R<w4.heap.size):
  RpJ w (w5.alloc (.cells cs 289)) R w5.heap.size (λg=>d.heap.size<=g/\g<w4.heap.size) G H xs (δ none 0 0) [] s:=by
 subst O;have Y:=a5.size;exact⟨U.more (qa.alloc _ _),qs (a5.blk J τ) _,qs (a5.blk N τ) _,qj w5 _,je.nil _ _ _ _ _ _,(Jv a5 I τ).al _,τ,τ,λg h=>⟨τ,τ⟩⟩
theorem RpJ.read {J w w':World} {R d:Nat} {C:Nat->Prop} {H I:Obj} {xs:List Value} {v:Value} {G:List Blk} {s s':RdS} (h:RpJ J w R d C H I xs v G s) (r:qu w' R s'.1 s'.2 C) (a:qg (λb=>b=R) w w'):RpJ J w' R d C H I xs v G s':=by
 have h1:=h.h1;have h2:=h.h2;exact⟨r,a.blk h.b0 τ,a.blk h.b1 τ,a.blk h.b5 τ,h.row.step (a.mono λk N=>Or.inl N),Jv a h.more τ,h1,h2,h.hC⟩
theorem RpJ.on {J w w':World} {R d:Nat} {C:Nat->Prop} {H I:Obj} {xs:List Value} {v:Value} {G:List Blk} {s:RdS} (h:RpJ J w R d C H I xs v G s) (m:qa w w'):RpJ J w' R d C H I xs v G s:=
 ⟨h.rd.more m,qc m h.b0,qc m h.b1,qc m h.b5,h.row.on m,h.more.trans m,h.h1,h.h2,h.hC⟩
theorem RpJ.put {I w w':World} {R d:Nat} {C:Nat->Prop} {U Y:Obj} {xs:List Value} {v v':Value} {aa O:List Blk} {s:RdS} (h:RpJ I w R d C U Y xs v aa s) (ab:xs.length=7)
  (ad:je 7 Yj (λb=>b=R∨b=d) w' (d+1) 473 v' O) (H:w.grownBy w' v.ownBlock):RpJ I (w'.setCell ⟨d,7,none⟩ v') R d C U Y xs v' O s:=by
 have h1:=h.h1;have h2:=h.h2;have G: ∀g,v.ownBlock=some g->d+1<=g:=λg e=>h.row.ge e
 have a:qg (λb=>v.ownBlock=some b) w w':=⟨H.os,H.tape,H.output,H.size,λk N ae=>H.block k N (λe=>ae e.symm)⟩;have a5:qg (λb=>b=d) w' (w'.setCell ⟨d,7,none⟩ v'):=(qg.refl (λb=>b=d) w').set (p:=⟨d,7,none⟩) rfl v';have ac:qa I w':=qg.to_more h.more a (λk e=>by have:=G k e;omega);refine⟨(h.rd.off a (λe=>by have:=G R e;omega) (λg J e=>by have:=G g e;have:=(h.hC g J).2;omega)).off a5 τ (λg J e=>by have:=(h.hC g J).2;omega),a5.blk (a.blk h.b0 (λe=>by have:=G _ e;omega)) τ,a5.blk (a.blk h.b1 (λe=>by have:=G _ e;omega)) τ,qB (qp (a.blk h.b5 (λe=>by have:=G _ e;omega)) 7 v') ?_,ad.step (a5.mono λk N=>Or.inr N),ac.st (by show I.heap.size<=d;omega) v',h1,h2,h.hC⟩
 match xs,ab with
 | [x0,x1,x2,x3,x4,x5,x6],_=>rfl
theorem RpJ.set {G w:World} {R d:Nat} {C:Nat->Prop} {I J:Obj} {xs:List Value} {v:Value} {H:List Blk} {s:RdS} (h:RpJ G w R d C I J xs v H s) (i:Nat) (hi:i<xs.length) (x:Value):RpJ G (w.setCell ⟨d,i,none⟩ x) R d C I J (xs.set i x) v H s:=by
 have h1:=h.h1;have h2:=h.h2;have a5:qg (λb=>b=d) w (w.setCell ⟨d,i,none⟩ x):=(qg.refl (λb=>b=d) w).set (p:=⟨d,i,none⟩) rfl x;refine⟨h.rd.off a5 τ (λg N e=>by have:=(h.hC g N).2;omega),a5.blk h.b0 τ,a5.blk h.b1 τ,qB (qp h.b5 i x) ?_,h.row.step (a5.mono λk O=>Or.inr O),h.more.st (by show G.heap.size<=d;omega) x,h1,h2,h.hC⟩;simp[List.setIfInBounds_toArray,List.set_append,hi]
theorem YY (n:Nat) (s:RdS) (acc:List Blk):acc++(js (n+1) s).1=(acc++[(qM s).1])++(js n (qM s).2).1/\(js (n+1) s).2=(js n (qM s).2).2:=by
 constructor
 ·show acc++((qM s).1::(js n (qM s).2).1)=_;simp
 ·rfl
theorem Ux {s:RdS} (h:Byt s.1):QS (qM s).1:=by
 have d:=jK h 4;have N:=jK d 1;have G:=jK N 3;have H:=jK G 4;have I:=jK H 4;have O:=jK I 4;have U:=zv (tkB (tkS s 4).1 1) 1 (jL d 1) (zh _ 1 ζ) ζ;have Y:=KR (num (tkB (tkS (tkS s 4) 1).1 3)) 24 ζ ζ;have J:two (24-1)=8388608:=by decide
 rw[J] at Y;exact⟨kp h,⟨U.1,by show num (tkB (tkS s 4).1 1)<=255;omega⟩,⟨by show -2147483648<=sgd _ 24;omega,by show sgd _ 24<=2147483647;omega⟩,kp G,kp H,kp I,kp O⟩
theorem Bf {c:qQ} (O:xk c):Zx (qG c).1:=by
 by_cases h:(qG c).2=0
 ·exact(YP (r:=(qG c).1) O (by rw[<-h])).2.1
 ·have:(qG c).1=Qh:=by
   unfold qG at h ⊢;have H: ∀r s,¬(yZ r s).2=0->(yZ r s).1=Qh:=by
    intro r s G;unfold yZ at G ⊢;split
    ·rename_i y;rw[if_pos y] at G;exact absurd rfl G
    ·rfl
   split
   ·rfl
   ·rename_i I;rw[if_neg I] at h;split
    ·rename_i d;rw[if_pos d] at h;exact H _ _ h
    ·rename_i d;rw[if_neg d] at h;split
     ·rename_i J;rw[if_pos J] at h;exact H _ _ h
     ·rfl
  rw[this];exact⟨ζ,WY,λb N=>by cases N⟩
theorem Du {w:World} (k t:Int) (B:List Int) (H:Option Addr) (G:Nat) (aa:Hid (SlI .u8 w (δ H B.length G) B)) (an:Hid (Byt B)) (ak:B.length<=1000000) (U:Hid (jx (k,t,B,())=false)):
  Calls prog 280 #[θ #[υ k,υ t,δ H B.length G]] w λe w'=>e= .returned (.tuple #[Γd,ι 1])/\qa w w':=by
 have O:qa w ((w.alloc (.cells #[υ k,υ t,δ H B.length G] 291)).alloc (.cells Γd 289)):=(qa.alloc _ _).al _;have J:((w.alloc (.cells #[υ k,υ t,δ H B.length G] 291)).alloc (.cells Γd 289)).heap[w.heap.size]? =some (.cells #[υ k,υ t,δ H B.length G] 291):=qs (qj w _) _;have N:((w.alloc (.cells #[υ k,υ t,δ H B.length G] 291)).alloc (.cells Γd 289)).heap[w.heap.size+1]? =some (.cells Γd 289):=qC η
 go_enter func280,ntmps280
 go_wp2_with (go_at_call 260;refine(xR (k,t,B,()) (aa.o.keep O) ak).mono ?_;rintro e am ⟨rfl,I⟩;rw[U.o];have Y:=O.trans I;have aj:=qc I J;have d:=qc I N;have ao:w.heap.size+2<=am.heap.size:=Nat.le_trans η I.size;have ab:=β0 d;have z0:=qd d 0;have ac:=β1 d;have ap:=qd d 1;have ad:=β2 d;have aq:=qd d 2;have ae:=β3 d;have z3:=qd d 3;have af:=β4 d;have z4:=qd d 4;have ag:=β5 d;have z5:=qd d 5;have ah:=β6 d;have ar:=qd d 6;have ai:=β7 d;have au:=qd d 7;clear aj d J N)
 (refine bodyPost_ret (v:= .tuple #[Γd,ι 1]) ?rr1 rfl ?_;(case rr1=>(simp[results,results280,go_sem,ab,ac,ad,ae,af,ag,ah,ai])))
 exact⟨rfl,((((((((Y.st η _).st η _).st η _).st η _).st η _).st η _).st η _).st η _)⟩
theorem Y8 {w:World} (k t:Int) (B:List Int) (H:Option Addr) (G:Nat) (U:Hid (SlI .u8 w (δ H B.length G) B)) (ad:Hid (Byt B)) (aa:B.length<=1000000) (ae:Hid (jx (k,t,B,())=true)) (aq: ¬t=200) (ar: ¬t=201):
  Calls prog 280 #[θ #[υ k,υ t,δ H B.length G]] w λe w'=>e= .returned (.tuple #[Γd,ι 5])/\qa w w':=by
 have ab:qa w ((w.alloc (.cells #[υ k,υ t,δ H B.length G] 291)).alloc (.cells Γd 289)):=(qa.alloc _ _).al _;have av:((w.alloc (.cells #[υ k,υ t,δ H B.length G] 291)).alloc (.cells Γd 289)).heap[w.heap.size]? =some (.cells #[υ k,υ t,δ H B.length G] 291):=qs (qj w _) _;have ay:((w.alloc (.cells #[υ k,υ t,δ H B.length G] 291)).alloc (.cells Γd 289)).heap[w.heap.size+1]? =some (.cells Γd 289):=qC η;have aG:(t==200)=false:=by simpa using aq
 have aH:(t==201)=false:=by simpa using ar
 go_enter func280,ntmps280
 go_wp2_with first | (go_at_call 260;refine(xR (k,t,B,()) (U.o.keep ab) aa).mono ?_;rintro e N ⟨rfl,I⟩;rw[ae.o];have O:=ab.trans I;have Y:=qc I av;have aw:=qc I ay;have aB:w.heap.size+2<=N.heap.size:=Nat.le_trans η I.size;have aD:=β2 Y) | (go_at_call 51;(go_call km _ B N (U.o.keep O) ad.o aa as e w4 ⟨R,rfl,az,ac,J⟩;have au:=qc J Y;have ax:=qc J aw;have af:=O.trans J;have aA:R<w4.heap.size:=by (obtain⟨v,ap,_⟩:=ac.blk;exact qn ap))) | (go_at_call 54;(go_call jD ac as e w5 ⟨rfl,aC,a5⟩;have d:RpJ w (w5.alloc (.cells #[μ false,ω (num (tkB B 4)),ω 0,ω 0,ω 0,ω 0,ω 0,()] 289)) R w5.heap.size (λg=>N.heap.size<=g/\g<w4.heap.size) (.cells #[υ k,υ t,δ H B.length G] 291) (.cells Γd 289) [μ false,ω (num (tkB B 4)),ω 0,ω 0,ω 0,ω 0,ω 0] (δ none 0 0) [] (tkL B 4,tkE B 4 0):=RpJ.new _ _ rfl au ax aC a5 af aB az aA;have aF:=β1 d.b0;have aE:=β0 d.b0;have ag:=β0 d.b1;have z0:=qd d.b1 0;have ah:=β1 d.b1;have aI:=qd d.b1 1;have ai:=β2 d.b1;have aJ:=qd d.b1 2;have aj:=β3 d.b1;have z3:=qd d.b1 3;have ak:=β4 d.b1;have z4:=qd d.b1 4;have am:=β5 d.b1;have z5:=qd d.b1 5;have an:=β6 d.b1;have aK:=qd d.b1 6;have ao:=β7 d.b1;have aL:=qd d.b1 7))
 (refine bodyPost_ret (v:= .tuple #[Γd,ι 5]) ?rr2 rfl ?_;(case rr2=>(simp[results,results280,go_sem,ag,ah,ai,aj,ak,am,an,ao])))
 exact⟨rfl,((((((((d.more.st η _).st η _).st η _).st η _).st η _).st η _).st η _).st η _)⟩
theorem XL {w:World} (G:Nat) (t:Int) (snd:Bool) (inf:Inf) (s0:RdS) (B:List Int) (U:Option Addr) (O:Nat) (D:Rep×Int) (aM:Hid (SlI .u8 w (δ U B.length O) B)) (bu:Hid (Byt B)) (bi:B.length<=1000000) (cb:G<=31) (aG:Hid (jx ((G:Int),t,B,())=true))
  (bk:t=if snd then 200 else 201) (bf:(if snd then jA (tkL B 4,tkE B 4 0) else (Jj,(tkL B 4,tkE B 4 0)))=(inf,s0)) (bv:Hid (yZ ⟨snd,num (tkB B 4),inf,(js G s0).1⟩ (js G s0).2=D)):
  Calls prog 280 #[θ #[υ (G:Int),υ t,δ U B.length O]] w λe w'=>(∃vb,e= .returned (.tuple #[θ #[μ D.1.snd,ω D.1.src,ω D.1.inf.sec,ω D.1.inf.frac,ω D.1.inf.stamp,ω D.1.inf.pkts,ω D.1.inf.octs,vb],ι D.2])/\SlP 7 Yj w' vb D.1.bl/\jX w vb)/\qa w w':=by
 obtain⟨bN,hi,bK,bL,bM⟩:=info_parts (P:=prog) (e:=473) (z:= Γe) (size:=7) (bytes:=28) ξ;obtain⟨k,av⟩: ∃k:Int,k=(G:Int):=⟨_,rfl⟩;rw[<-av] at aG ⊢;have aq:=κ av;clear av;have aB:qa w ((w.alloc (.cells #[υ k,υ t,δ U B.length O] 291)).alloc (.cells Γd 289)):=(qa.alloc _ _).al _;have bb:((w.alloc (.cells #[υ k,υ t,δ U B.length O] 291)).alloc (.cells Γd 289)).heap[w.heap.size]? =some (.cells #[υ k,υ t,δ U B.length O] 291):=qs (qj w _) _;have bd:((w.alloc (.cells #[υ k,υ t,δ U B.length O] 291)).alloc (.cells Γd 289)).heap[w.heap.size+1]? =some (.cells Γd 289):=qC η;have aH:=κ bk;have aD:=κ bf;clear bk bf
 go_enter func280,ntmps280
 go_upto_block 2 with first | (go_at_call 260;refine(xR (k,t,B,()) (aM.o.keep aB) bi).mono ?_;rintro e ag ⟨rfl,am⟩;rw[aG.o];have aI:=aB.trans am;have aZ:=qc am bb;have bE:=qc am bd;have bm:w.heap.size+2<=ag.heap.size:=Nat.le_trans η am.size;have bC:=β2 aZ) | (go_at_call 51;(go_call km _ B ag (aM.o.keep aI) bu.o bi as e w4 ⟨R,rfl,bg,bn,aC⟩;have ba:=qc aC aZ;have bc:=qc aC bE;have aJ:=aI.trans aC;have bh:R<w4.heap.size:=by (obtain⟨v,h1,_⟩:=bn.blk;exact qn h1))) | (go_at_call 54;(go_call jD bn as e w5 ⟨rfl,bo,a5⟩;have af:RpJ w (w5.alloc (.cells #[μ false,ω (num (tkB B 4)),ω 0,ω 0,ω 0,ω 0,ω 0,()] 289)) R w5.heap.size (λg=>ag.heap.size<=g/\g<w4.heap.size) (.cells #[υ k,υ t,δ U B.length O] 291) (.cells Γd 289) [μ false,ω (num (tkB B 4)),ω 0,ω 0,ω 0,ω 0,ω 0] (δ none 0 0) [] (tkL B 4,tkE B 4 0):=RpJ.new _ _ rfl ba bc bo a5 aJ bm bg bh;have au:=β1 af.b0))
 have ap:=κ af;clear af au
 go_cut [] from 19 to 51 (λbR=>RpJ w bR R w5.heap.size (λg=>ag.heap.size<=g/\g<w4.heap.size) (.cells #[υ k,υ t,δ U B.length O] 291) (.cells Γd 289) [μ snd,ω (num (tkB B 4)),ω inf.sec,ω inf.frac,ω inf.stamp,ω inf.pkts,ω inf.octs] (δ none 0 0) [] s0)
 case first=>
  cases snd
  ·have h1:=aH.o;have h2:=aD.o;simp only[Bool.false_eq_true,if_false,Prod.mk.injEq] at h1 h2;obtain⟨rfl,rfl⟩:=h2;subst h1;have au:=β1 ap.o.b0;go_wp2;go_meet;exact ap.o
  ·have h1:=aH.o;have h2:=aD.o;simp only[if_true] at h1 h2;subst h1;have ah:inf=(jA (tkL B 4,tkE B 4 0)).1:=by rw[h2]
   have bD:s0=(jA (tkL B 4,tkE B 4 0)).2:=by rw[h2]
   subst ah bD;clear h2;have au:=β1 ap.o.b0;have af:RpJ w (w5.alloc (.cells #[μ true,ω (num (tkB B 4)),ω 0,ω 0,ω 0,ω 0,ω 0,()] 289)) R w5.heap.size (λg=>ag.heap.size<=g/\g<w4.heap.size) (.cells #[υ k,υ 200,δ U B.length O] 291) (.cells Γd 289) [μ true,ω (num (tkB B 4)),ω 0,ω 0,ω 0,ω 0,ω 0] (δ none 0 0) [] (tkL B 4,tkE B 4 0):=RpJ.new _ _ rfl ba bc bo a5 aJ bm bg bh
   go_wp2_with ((go_at_call 304;(go_call Kx (s:=(tkL B 4,tkE B 4 0)) af.rd as e cr ⟨rfl,bp,aO⟩;have J:=af.read bp aO;have cl:=β2 J.b5;have ct:=qd J.b5 2;have cm:=β3 J.b5;have cu:=qd J.b5 3;have cn:=β4 J.b5;have cv:=qd J.b5 4;have co:=β5 J.b5;have cw:=qd J.b5 5;have cp:=β6 J.b5;have cx:=qd J.b5 6;have bz:=(((((J.set 2 η (ω (jA (tkL B 4,tkE B 4 0)).1.sec)).set 3 η (ω (jA (tkL B 4,tkE B 4 0)).1.frac)).set 4 η (ω (jA (tkL B 4,tkE B 4 0)).1.stamp)).set 5 η (ω (jA (tkL B 4,tkE B 4 0)).1.pkts)).set 6 η (ω (jA (tkL B 4,tkE B 4 0)).1.octs));clear bp aO)))
   go_meet;exact bz
 case rest=>
 have ar:=hcut;have bW:=β0 ar.b0;go_wp2;clear bC aB bb bd;have aE:=κ ar;clear ar;obtain⟨aL,bX⟩: ∃aL,aL=R:=⟨_,rfl⟩;obtain⟨H,aj⟩: ∃H,H=w5.heap.size:=⟨_,rfl⟩;obtain⟨C,be⟩: ∃C:Nat->Prop,C=λg=>ag.heap.size<=g/\g<w4.heap.size:=⟨_,rfl⟩
 rw[<-aj,<-be] at aE;have bU:=κ (And.intro aj aq.o);rw[<-aj];clear aj be;have bw:=bv
 go_loopw [29] (λaA wr=> ∃j:Nat,j<=G/\aA= υ (j:Int)/\(∃v bl s,RpJ w wr R H C (.cells #[υ k,υ t,δ U B.length O] 291) (.cells Γd 289) [μ snd,ω (num (tkB B 4)),ω inf.sec,ω inf.frac,ω inf.stamp,ω inf.pkts,ω inf.octs] v bl s/\bl.length=j/\(js G s0).1=bl++(js (G-j) s).1/\(js G s0).2=(js (G-j) s).2)) (λaA _=>G-(intOf aA).toNat)
 case atStart=>exact⟨0,τ,rfl,⟨_,_,_,aE.o,rfl,η,rfl⟩⟩
 case round=>
  obtain⟨j,bZ,rfl,⟨v,bl,s,d,bj,ac,ad⟩⟩:=hrel;have Y:=κ d;have aF:=κ bj;clear d bj;by_cases hlt:j<G
  ·have bG:(j:Int)<k:=by rw[aq.o];omega
   have ah:G-j=(G-(j+1))+1:=by omega
   have ax:=YY (G-(j+1)) s bl;rw[ah,ax.1] at ac;rw[ah,ax.2] at ad;have bs:=κ ac;have bt:=κ ad;clear ac ad ax ah;have ca:((j:Int)+1)%256=(j:Int)+1:=by omega
   have bI: ¬(H=R∨v.ownBlock=some H):=by
    rintro(e | e)
    ·have:=Y.o.h2;omega
    ·have:=Y.o.row.ge e;omega
   have bT:=λ(x:qz (λb=>b=R∨v.ownBlock=some b) wr)=>β7 (x.h.blk Y.o.b5 bI)
   go_wp2_with fail
   refine QN (λb=>b=R∨v.ownBlock=some b) wr 7 8 [3,4,5,7] ?_
   refine Qs3 ?_
   (refine Ql ?_;intro K I)
   refine(Kz (s:=s) (Y.o.rd.more (qa.drewN _ 1))).mono ?_;rintro e w8 ⟨rfl,bP,aP⟩;have aQ:qg (λb=>b=R∨v.ownBlock=some b) wr w8:=((qg.refl _ _).drewN _).trans (aP.mono λb h=>Or.inl h);refine⟨_,rfl,qi aQ,I _ _ ?_⟩;clear I K
   (refine Ql ?_;intro K I)
   have a9:=aQ.more (qa.alloc w8 (.cells #[ω (qM s).1.src,υ (qM s).1.part,χ (qM s).1.miss,ω (qM s).1.high,ω (qM s).1.jit,ω (qM s).1.last,ω (qM s).1.dly] 473));refine⟨qi a9,I _ _ ?_⟩;clear I K;have bA:=(Y.o.on (qa.drewN wr 1)).read bP aP;have N:=bA.on (qa.alloc w8 (.cells #[ω (qM s).1.src,υ (qM s).1.part,χ (qM s).1.miss,ω (qM s).1.high,ω (qM s).1.jit,ω (qM s).1.last,ω (qM s).1.dly] 473));have bO:=Ux (s:=s) Y.o.rd.byt
   (refine jR rfl rfl ?_;intro K I)
   refine zK (.tmp 32) (.tmp 35) 287 rfl (H+1) 473 bN (Γe) 7 28 underlying287 hi bK bL bM rfl ζ v bl rfl N.row w8.heap.size (qM s).1.cells (qM s).1 rfl rfl (zS rfl) (by simp[Blk.cells,Value.oneCell']) (λ_ _=>⟨rfl,bO⟩) (λb ak=>by have:=N.h2;have:=qn N.b5;omega) ζ (by have:=aF.o;omega) (by have:=qn N.b5;omega) ?_;intro v10 w10 aw aa bF;have aN:qg (λb=>b=R∨v.ownBlock=some b) wr w10:=a9.trans ⟨aa.os,aa.tape,aa.output,aa.size,λk bH bJ=>aa.block k bH (λe=>bJ (Or.inr e.symm))⟩;have bx:=κ (N.put (by rfl) aw aa);have cq:w10.cell? ⟨H,7,none⟩=some v:=by
    have:w10.heap[H]? =_:=(aa.block H (qn N.b5) (λe=>by have:=N.row.ge e.symm;omega)).trans N.b5;exact qb this 7 rfl
   have bS:w10.frozen? ⟨H,7,none⟩=false:=by
    have:w10.heap[H]? =_:=(aa.block H (qn N.b5) (λe=>by have:=N.row.ge e.symm;omega)).trans N.b5;exact qd this 7
   obtain⟨cd,cc,bV,rfl,ay,az⟩:=aw.shape;clear ay az aw aa bF;refine⟨qi aN,I _ _ ?_⟩;clear I K;go_simp
   iterate 1 (refine qE rfl rfl (qi aN) ?_;intro K I;go_big_quiet_op;go_big_quiet_on)
   (refine Qe ?_;intro K I)
   refine I _ _ ?_;clear I K;refine qA ?_;go_wp2;go_roundw
   case rel=>exact⟨j+1,τ,by go_num,⟨_,_,_,bx.o,by (have:=aF.o;simp;omega),bs.o,bt.o⟩⟩
   case measure=>simp[intOf];omega
  ·obtain rfl:j=G:=by omega
   rw[Nat.sub_self] at ac ad;have ac:(js j s0).1=bl:=by rw[ac];exact List.append_nil _
   have ad:(js j s0).2=s:=ad;have ab:=bw.o;rw[ac,ad] at ab;unfold yZ at ab;have d:=Y.o;have bG: ¬(j:Int)<k:=by rw[aq.o];omega
   obtain⟨ao,an,ai,rfl,ay,az⟩:=d.row.shape;have bB:=κ (d.row.sl ζ);have bq:Hid (∀b,(δ ao an ai).ownBlock=some b-> ¬b=w.heap.size+1):=κ (λb ak e=>by have:=d.row.ge ak;have:=d.h1;have:=d.h2;omega);have br:Hid (jX w (δ ao an ai)):=κ (λb ak=>by have:=d.row.ge ak;have:=d.h1;have:=d.h2;omega);have aK:=κ d.more;clear ac ad ay az;have ce:=β0 d.b5;have cf:=β1 d.b5;have p2:=β2 d.b5;have cg:=β3 d.b5;have ch:=β4 d.b5;have ci:=β5 d.b5;have cj:=β6 d.b5;have ck:=β7 d.b5;have aR:=β0 d.b1;have z0:=qd d.b1 0;have aS:=β1 d.b1;have cy:=qd d.b1 1;have aT:=β2 d.b1;have cz:=qd d.b1 2;have aU:=β3 d.b1;have z3:=qd d.b1 3;have aV:=β4 d.b1;have z4:=qd d.b1 4;have aW:=β5 d.b1;have z5:=qd d.b1 5;have aX:=β6 d.b1;have cA:=qd d.b1 6;have aY:=β7 d.b1;have bS:=qd d.b1 7;by_cases he:wM s=0
   ·rw[if_pos he] at ab;have ae:=κ ab;clear ab d
    go_wp2_with (go_at_call 59;(go_call JD (s:=s) Y.o.rd as e bQ ⟨rfl,rfl⟩;rw[he]))
    (refine bodyPost_ret (v:= .tuple #[θ #[μ snd,ω (num (tkB B 4)),ω inf.sec,ω inf.frac,ω inf.stamp,ω inf.pkts,ω inf.octs,δ ao an ai],ι 0]) ?rr3 rfl ?_;(case rr3=>(simp[results,results280,go_sem,aR,aS,aT,aU,aV,aW,aX,aY])))
    refine⟨⟨δ ao an ai,by first | (rw[<-ae.o];done) | (rw[<-ae.o];rfl), ?_⟩,((((((((aK.o.st η _).st η _).st η _).st η _).st η _).st η _).st η _).st η _)⟩;rw[<-ae.o];exact⟨Yv bB.o bq.o ((((((((qg.refl (λb=>b=w.heap.size+1) _).set rfl _).set rfl _).set rfl _).set rfl _).set rfl _).set rfl _).set rfl _ |>.set rfl _),br.o⟩
   ·rw[if_neg he] at ab;have ae:=κ ab;have bY:(wM s != 0)=true:=by simpa using he
    clear ab d
    go_wp2_with (go_at_call 59;(go_call JD (s:=s) Y.o.rd as e bQ ⟨rfl,rfl⟩))
    (refine bodyPost_ret (v:= .tuple #[Γd,ι (wM s)]) ?rr4 rfl ?_;(case rr4=>(simp[results,results280,go_sem,aR,aS,aT,aU,aV,aW,aX,aY])))
    refine⟨⟨δ none 0 0,by first | (rw[<-ae.o];done) | (rw[<-ae.o];rfl), ?_⟩,((((((((aK.o.st η _).st η _).st η _).st η _).st η _).st η _).st η _).st η _)⟩;rw[<-ae.o];exact⟨SlP.nil _ _ _,jX.nil w⟩
theorem We {w:World} {vb:Value} (c:qQ) (Y:SlI .u8 w vb c.2.2.1) (aa:xk c) (J:c.2.2.1.length<=1000000):
  Calls prog 280 #[θ #[υ c.1,υ c.2.1,vb]] w λe w'=>(∃vb,e= .returned (.tuple #[θ #[μ (qG c).1.snd,ω (qG c).1.src,ω (qG c).1.inf.sec,ω (qG c).1.inf.frac,ω (qG c).1.inf.stamp,ω (qG c).1.inf.pkts,ω (qG c).1.inf.octs,vb],ι (qG c).2])/\SlP 7 Yj w' vb (qG c).1.bl/\jX w vb)/\qa w w':=by
 obtain⟨k,t,B,⟨⟩⟩:=c;obtain⟨⟨ac,ad⟩,_,I⟩:=aa;simp only at *;have G:=κ Y;obtain⟨N,H,rfl,_⟩:=Y;cases hr:jx (k,t,B,()) with
 | false=>
  have e:qG (k,t,B,())=(Qh,1):=by unfold qG;rw[if_pos hr]
  rw[e];exact(Du k t B N H G (κ I) J (κ hr)).mono λe w' ⟨O,U⟩=>⟨⟨_,O,SlP.nil _ _ _,jX.nil w⟩,U⟩
 | true=>
  have ab:=((zO _).1 hr).1;simp only at ab;obtain⟨d,rfl⟩: ∃n:Nat,k=n:=⟨k.toNat,τ⟩;by_cases h200:t=200
  ·subst h200;have e:qG ((d:Int),200,B,())=yZ ⟨true,num (tkB B 4),(jA (tkL B 4,tkE B 4 0)).1,(js d (jA (tkL B 4,tkE B 4 0)).2).1⟩ (js d (jA (tkL B 4,tkE B 4 0)).2).2:=by
    unfold qG;rw[if_neg (by rw[hr];simp),if_pos rfl];rfl
   exact XL d 200 true (jA (tkL B 4,tkE B 4 0)).1 (jA (tkL B 4,tkE B 4 0)).2 B N H _ G (κ I) J τ (κ hr) rfl rfl (κ e.symm)
  ·by_cases h201:t=201
   ·subst h201;have e:qG ((d:Int),201,B,())=yZ ⟨false,num (tkB B 4),Jj,(js d (tkL B 4,tkE B 4 0)).1⟩ (js d (tkL B 4,tkE B 4 0)).2:=by
     unfold qG;rw[if_neg (by rw[hr];simp),if_neg (show ¬(201:Int)=200 by decide),if_pos rfl];rfl
    exact XL d 201 false Jj (tkL B 4,tkE B 4 0) B N H _ G (κ I) J τ (κ hr) rfl rfl (κ e.symm)
   ·have e:qG ((d:Int),t,B,())=(Qh,5):=by unfold qG;rw[if_neg (by rw[hr];simp),if_neg h200,if_neg h201]
    rw[e];exact(Y8 (d:Int) t B N H G (κ I) J (κ hr) h200 h201).mono λe w' ⟨O,U⟩=>⟨⟨_,O,SlP.nil _ _ _,jX.nil w⟩,U⟩
theorem qg.cons {b:Nat} {w w':World} (h:qg (λk=>k=b) w w') (i:Nat) (v:Value):qg (λk=>k=b) w (w'.setCell ⟨b,i,none⟩ v):=h.set (p:=⟨b,i,none⟩) rfl v
end Go.Proofs.YtlmllmonabafjaaGreatDoor
