/- x -/
import Derived.Test.YtmgaiiffmheabaaGreatDoorMg12
namespace Go.Proofs.YtmgaiiffmheabaaGreatDoor
open Option renaming some->ϊ,none->ϋ
open Bool renaming true->ό,false->ύ
open Go.Value renaming bool->μ,slice->δ,pointer->π,agg->θ
open Go.IntKind renaming i64->ι,u8->υ,u16->φ,u32->ω,i32->χ,u64->ψ
set_option linter.all false
set_option maxHeartbeats 8000000
open Go.RowKit
set_option maxRecDepth 100000
open _root_.Go.Proofs.Tryz
variable {b:List UInt8}
def qbI (a b:List UInt8):qg (ofL (a++10::b))=qg (ofL a)++qg (ofL b):=by
 rw[BO,BO,BO];show (gt 10 (a++10::b)).map ofL=(gt 10 a).map ofL++(gt 10 b).map ofL;rw[qdI,ϩ]
def rmT:List UInt8:=[114,111,111,109,32,50,32,50,32,49,32,49,32,50,32,49]
def rmW:List ByteArray:=[⟨#[114,111,111,109]⟩,⟨#[50]⟩,⟨#[50]⟩,⟨#[49]⟩,⟨#[49]⟩,⟨#[50]⟩,⟨#[49]⟩]
def qcC:qc (ofL rmT)=rmW:=by rw[qd];kernel_rfl
def qcf:qg (ofL rmT)=[ofL rmT]:=by
 rw[BO];show (gt 10 rmT).map ofL=[ofL rmT];rw[show gt 10 rmT=[rmT] by decide];rfl
def qdE:qbU rmW=ό:=by kernel_rfl
def rmS:RmS:=ud ⟨2,2,1,1,2,1⟩
def qdD (o:Option RmS):lnS o (ofL rmT)=(ϊ rmS,[111,107,10]):=by
 rw[qd4 qcC];have e:kc o rmW=(ϊ rmS,[111,107]):=by
  rw[show rmW=(⟨#[114,111,111,109]⟩:ByteArray)::[⟨#[50]⟩,⟨#[50]⟩,⟨#[49]⟩,⟨#[49]⟩,⟨#[50]⟩,⟨#[49]⟩] from rfl,qcw (fm:=⟨#[110,110,110,110,110,110]⟩) (ns:=[2,2,1,1,2,1]) ζ ξ];have d:stS o ⟨#[114,111,111,109]⟩ [2,2,1,1,2,1]=(ϊ rmS,.told []):=by
   unfold stS;rw[ϓ ζ];have G:Fv o (qcy [2,2,1,1,2,1])=(ϊ rmS,0):=ϓ ζ;rw[G];rfl
  rw[d];rfl
 show ((kc o rmW).1,(kc o rmW).2++[10])=_;rw[e];rfl
def qd7 (a b:List UInt8):qbZ (ofL (a++10::b))=qbZ (ofL a)++(qbL (qbL ϋ (qg (ofL a))).1 (qg (ofL b))).2:=by
 unfold qbZ;rw[qbI,qcB]
def qft (b:List UInt8):qbZ (ofL (rmT++10::b))=[111,107,10]++(qbL (ϊ rmS) (qg (ofL b))).2:=by
 unfold qbZ;rw[qbI,qcf,List.singleton_append,qbX,qdD]
def qfs (a b:List UInt8):qbZ (ofL (a++10::(rmT++10::b)))=qbZ (ofL a)++qbZ (ofL (rmT++10::b)):=by
 rw[qd7 a,qbI rmT,qcf,List.singleton_append,qbX,qdD,qft]
def qfw {a:List UInt8} (h:a.length<=1000) (k:b.length<=1000):okL ((qg (ofL (a++10::b))).map qc):=by
 refine qcA _ ?_;rw[qbI,ϩ,qcu];have:=qcQ a;have:=qcQ b;omega
def qfK {a:List UInt8} (h:a.length<=1000) (k:b.length<=1000):okL ((qg (ofL (a++10::(rmT++10::b)))).map qc):=by
 rw[qbI,ϩ,qbI rmT,qcf,ϩ,List.map_singleton,qcC];have:=qcQ a;have:=qcQ b;exact qcD qdE (M:=(qg (ofL b)).map qc) τ ((qg (ofL a)).map qc) τ
def qd9 (p r:List UInt8) (w:World):Calls prog 13 #[.string ⟨(p++r).toArray⟩,.string ⟨p.toArray⟩] w λe w'=>e= .returned (μ ό)/\w'=w:=by
 have G:(⟨(p++r).toArray⟩:ByteArray).extract 0 p.length=⟨p.toArray⟩:=by
  apply ByteArray.ext;simp
 have d:(p.length:Int)<=((p++r).length:Int):=by rw[ώ];omega
 go_enter func13,ntmps13
 go_wp2_with (go_at_call 19;go_enter func19,ntmps19;go_wp2;go_ret)
def qb2 (a b:List UInt8) (w:World) {O:Int} (I:w.cell? ⟨OQ,0,ϋ⟩=ϊ (ι O)) (J:Lib.TabIs prog w N9 .u64 Lib.pow10Tab) (h:1000<a.length∨1000<b.length):
  Calls prog 4 #[.string ⟨a.toArray⟩,.string ⟨b.toArray⟩] w λe w'=>e= .returned (μ ό)/\ql w w':=by
 have H:=κ (qdK w I J);clear I J;by_cases h1:1000<a.length
 ·have N:(1000:Int)<(a.length:Int):=by omega
  clear h h1
  go_enter func4,ntmps4
  go_wp2_with ((go_at_call 5;(go_call H.o as e w1 ⟨rfl,d⟩;have G:=κ d;clear d)))
  go_ret;exact⟨rfl,G.o⟩
 ·have N: ¬(1000:Int)<(a.length:Int):=by omega
  have U:(1000:Int)<(b.length:Int):=by omega
  clear h h1
  go_enter func4,ntmps4
  go_wp2_with ((go_at_call 5;(go_call H.o as e w1 ⟨rfl,d⟩;have G:=κ d;clear d)))
  go_ret;exact⟨rfl,G.o⟩
def qcn (a b d ab G:List UInt8) (w:World) (ag:Calls prog 5 #[] w λe w'=>e= .returned (μ ό)/\ql w w') (ac: ∀w',ql w w'->Calls prog 10 #[.string ⟨(a).toArray⟩] w' λe w''=>e= .returned (.tuple #[.string ⟨(d).toArray⟩,ι 0])/\ql w' w'') (ad: ∀w',ql w w'->Calls prog 10 #[.string ⟨(a++10::b).toArray⟩] w' λe w''=>e= .returned (.tuple #[.string ⟨(d++ab).toArray⟩,ι 0])/\ql w' w'') (ae: ∀w',ql w w'->Calls prog 10 #[.string ⟨(114::111::111::109::32::50::32::50::32::49::32::49::32::50::32::49::10::b).toArray⟩] w' λe w''=>e= .returned (.tuple #[.string ⟨(G).toArray⟩,ι 0])/\ql w' w'') (af: ∀w',ql w w'->Calls prog 10 #[.string ⟨(a++10::114::111::111::109::32::50::32::50::32::49::32::49::32::50::32::49::10::b).toArray⟩] w' λe w''=>e= .returned (.tuple #[.string ⟨(d++G).toArray⟩,ι 0])/\ql w' w'') (aq:a.length<=1000) (ar:b.length<=1000):
  Calls prog 4 #[.string ⟨a.toArray⟩,.string ⟨b.toArray⟩] w λe w'=>e= .returned (μ ό)/\ql w w':=by
 have am:=κ ag;have H:=κ ac;have I:=κ ad;have J:=κ ae;have N:=κ af;clear ag ac ad ae af;have au:=λw=>run_string_add_lists (P:=prog) w a [10] τ ζ
 have av:=λw=>run_string_add_lists (P:=prog) w (a++[10]) b (by simp;omega) τ
 have aw:=λw=>run_string_add_lists (P:=prog) w [114,111,111,109,32,50,32,50,32,49,32,49,32,50,32,49,10] b ζ τ
 have ax:=λw=>run_string_add_lists (P:=prog) w a [10,114,111,111,109,32,50,32,50,32,49,32,49,32,50,32,49,10] τ ζ
 have ay:=λw=>run_string_add_lists (P:=prog) w (a++[10,114,111,111,109,32,50,32,50,32,49,32,49,32,50,32,49,10]) b (by simp;omega) τ
 have aA: ¬(1000:Int)<(a.length:Int):=by omega
 have aB: ¬(1000:Int)<(b.length:Int):=by omega
 have an:=κ (qd9 d ab);have ao:=κ (qd9 d G);have az:((⟨(d++G).toArray⟩:ByteArray).extract d.length (d.length+G.length)).toList=G:=by
  rw[ByteArray.toList_eq];simp
 have aC:(d.length:Int)<=((d++G).length:Int):=by rw[ώ];omega
 clear aq ar
 go_enter func4,ntmps4
 go_wp2_with (first | (go_at_call 5;(go_call am.o as e w1 ⟨rfl,ah⟩;have O:=κ ah;clear ah)) | (go_at_call 10;((with_reducible refine(H.o _ O.o).mono ?_);rintro e w2 ⟨rfl,ai⟩;have U:=κ (O.o.trans ai);clear ai H)) | (go_at_call 10;((with_reducible refine(I.o _ U.o).mono ?_);rintro e aD ⟨rfl,aj⟩;have Y:=κ (U.o.trans aj);clear aj I)) | (go_at_call 10;((with_reducible refine(J.o _ Y.o).mono ?_);rintro e w4 ⟨rfl,ak⟩;have aa:=κ (Y.o.trans ak);clear ak J)) | (go_at_call 10;((with_reducible refine(N.o _ aa.o).mono ?_);rintro e w5 ⟨rfl,al⟩;have ap:=κ (aa.o.trans al);clear al N)) | (go_at_call 13;((with_reducible refine(an.o _).mono ?_);rintro e w6 ⟨rfl,rfl⟩)) | (go_at_call 13;((with_reducible refine(ao.o _).mono ?_);rintro e w7 ⟨rfl,rfl⟩)))
 go_ret;exact⟨rfl,ap.o⟩
def qeD {N:Int} {w:World} (d:w.cell? ⟨OQ,0,ϋ⟩=ϊ (ι N)) (J:Lib.TabIs prog w N9 .u64 Lib.pow10Tab) (T:List UInt8) (H:T.length<=3000) (I:okL ((qg (ofL T)).map qc)) {R:List UInt8} (G:qbZ (ofL T)=R) (w':World) (m:ql w w'):
  Calls prog 10 #[.string ⟨T.toArray⟩] w' λe w''=>e= .returned (.tuple #[.string ⟨R.toArray⟩,ι 0])/\ql w' w'':=by
 have h:=qdL (ofL T) (by rw[qbQ];exact H) I w' (by rw[m.cells _ _ (Gb d).2];exact d) (NK J m);rw[G] at h;exact h
def qfv {T:List UInt8} (h:rmT++10::b=T) (k:b.length<=1000):okL ((qg (ofL T)).map qc):=by
 rw[<-h,qbI,qcf,ϩ,List.map_singleton,qcC];have:=qcQ b;exact qcD qdE (M:=(qg (ofL b)).map qc) τ [] (ϫ _)
def qco (a b:List UInt8) (w:World) {ag:Int} (G:w.cell? ⟨OQ,0,ϋ⟩=ϊ (ι ag)) (H:Lib.TabIs prog w N9 .u64 Lib.pow10Tab) (I:a.length<=1000) (J:b.length<=1000):
  Calls prog 4 #[.string ⟨a.toArray⟩,.string ⟨b.toArray⟩] w λe w'=>e= .returned (μ ό)/\ql w w':=by
 obtain⟨N,O⟩: ∃R,qbZ (ofL a)=R:=⟨_,rfl⟩;obtain⟨Y,af⟩: ∃R,(qbL (qbL ϋ (qg (ofL a))).1 (qg (ofL b))).2=R:=⟨_,rfl⟩;obtain⟨T,d⟩:=ν (rmT++10::b);obtain⟨U,ac⟩: ∃R,qbZ (ofL T)=R:=⟨_,rfl⟩;have ad:=qeD G H a τ (qfL I) O;have ae:=qeD G H (a++10::b) (by simp;omega) (qfw I J) (R:=N++Y) (by rw[qd7,O,af]);have aa:=qeD G H T (by rw[<-d];simp[rmT];omega) (qfv d J) ac;have ab:=qeD G H (a++10::(rmT++10::b)) (by simp[rmT];omega) (qfK I J) (R:=N++U) (by rw[qfs,O,d,ac]);have e:T=114::111::111::109::32::50::32::50::32::49::32::49::32::50::32::49::10::b:=by rw[<-d];rfl
 rw[e] at aa;rw[d,e] at ab;exact qcn a b N Y U w (qdK w G H) ad ae aa ab I J
def qct (s0 s1:ByteArray) (w:World) {H:Int} (d:w.cell? ⟨OQ,0,ϋ⟩=ϊ (ι H)) (G:Lib.TabIs prog w N9 .u64 Lib.pow10Tab):
  Calls prog 4 #[.string s0,.string s1] w λe w'=>e= .returned (μ ό)/\ql w w':=by
 rw[<-qds s0,<-qds s1];by_cases h1:1000<s0.data.toList.length
 ·exact qb2 _ _ w d G (ϑ h1)
 ·by_cases h2:1000<s1.data.toList.length
  ·exact qb2 _ _ w d G (ϕ h2)
  ·exact qco _ _ w d G τ τ
end Go.Proofs.YtmgaiiffmheabaaGreatDoor
