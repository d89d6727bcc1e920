/- joined of several texts; own work; no statement of the seat is proved but in the last -/
import Derived.Test.YtebndjnkmcahaaaGreatDoorRh
import Derived.Test.YtebndjnkmcahaaaGreatDoorRf
section
section
namespace Go.Proofs.YtebndjnkmcahaaaGreatDoor
set_option linter.unusedSimpArgs false
set_option linter.unusedVariables false
open Go Go.Abs Go.RowKit
def cv (f:Fl) (budget:Int):List JOp→FR
 | []=>⟨f,budget,0⟩
 | o::r=>if (cM f budget o).err≠0 then cM f budget o else cv (cM f budget o).f (cM f budget o).left r
def bx (f:Fl) (budget:Int):JR :=
 if cB f≠0 then ⟨jn0,0,cB f⟩ else
 if (cv f budget [.er 0,.er 1,.wr 0 0 (headM 1)]).err≠0 then bq (cv f budget [.er 0,.er 1,.wr 0 0 (headM 1)]).f (cv f budget [.er 0,.er 1,.wr 0 0 (headM 1)]).err
 else ⟨(mountM (cv f budget [.er 0,.er 1,.wr 0 0 (headM 1)]).f).j,(cv f budget [.er 0,.er 1,.wr 0 0 (headM 1)]).left,0⟩
theorem bu (f:Fl) (budget:Int) (o:JOp) (r:List JOp) (G:FR) (h:cM f budget o=G):cv f budget (o::r)=if G.err≠0 then G else cv G.f G.left r:=by
 rw [← h];rfl
theorem Av (ps:Int) (bs:List UInt8) (n:Nat) (budget:Int) (hn:bs.length=n) (hb:n<1000000000) (hB:i64 budget) :
 FPure Tryz.prog 135 [.agg [.i ps,.p (.data 1 n (bs.map bt))],.i budget] (sJ (bx ⟨ps,bs⟩ budget)):=by
 refine en Tryz.func135 Tryz.ntmps135 Tryz.results135 [0,1,2,4,5,6,7,8,9,14,27,41,50,60] ?_;intro c hP h0 hE kK
 simp only [go_sem,hP]
 refine aa kK (by exact jL ps n _ hb) ?_
 simp only [go_sem,hP]
 obtain⟨R,hR⟩:∃R,bx ⟨ps,bs⟩ budget=R:=⟨_,rfl⟩;rw [hR] at hE kK;(try rw [hR])
 unfold bx at hR
 have br:∀e,e≠16→bq ⟨ps,bs⟩ e=⟨jn0,0,e⟩:=fun e he=>by unfold bq;rw [if_neg he]
 have hv16:bw ps n≠16:=by unfold bw;split<;>(try split)<;>decide
 split
 ·rename_i h
  have hx:cB ⟨ps,bs⟩=bw ps n:=by unfold cB;simp only [hn];rw [if_pos h]
  rw [hx,if_pos h] at hR
  subst hR
  refine aa kK (by exact bU ps bs n _ hn) ?_
  rw [br _ hv16]
  simp only [go_sem,hP]
 ·rename_i h
  obtain⟨p,k,hp,hp1,hp2,hnk,hk1,hk2⟩:=ep (show bw ps n=0 by omega)
  (try go_unwrap)
  split
  ·have hx:cB ⟨ps,bs⟩=4:=by unfold cB;simp only [hn];rw [if_neg h,if_pos (by omega)]
   rw [hx,if_pos (by decide)] at hR
   subst hR
   refine aa kK (by exact bU ps bs n 4 hn) ?_
   rw [br 4 (by decide)]
   simp only [go_sem,hP]
  ·have hx:cB ⟨ps,bs⟩=0:=by unfold cB;simp only [hn];rw [if_neg h,if_neg (by omega)]
   rw [hx,if_neg (by decide)] at hR
   obtain⟨X,hX⟩:∃X,cv ⟨ps,bs⟩ budget [.er 0,.er 1,.wr 0 0 (headM 1)]=X:=⟨_,rfl⟩
   rw [hX] at hR
   have fin:∀(G:FR),G.err≠0→G=X→bq ⟨G.f.ps,G.f.bs⟩ G.err=R:=fun G h1 h2=>by subst h2;rw [if_pos h1] at hR;exact hR
   refine aa kK (by exact p7 ps bs n 0 budget hn hb hB) ?_
   have h1:=eO (f:=⟨ps,bs⟩) (budget:=budget) (.er 0) hB (by show bs.length<_;omega) trivial
   have e1:cM ⟨ps,bs⟩ budget (.er 0)=df ⟨ps,bs⟩ 0 budget:=rfl
   generalize df ⟨ps,bs⟩ 0 budget=G1 at *
   rw [e1] at h1
   simp only at h1
   rw [bu _ _ _ _ _ e1] at hX
   simp only [go_sem,hP]
   split
   ·rename_i hG1
    rw [if_neg (fun e=>e hG1)] at hX
    refine aa kK (by exact p7 G1.f.ps G1.f.bs _ 1 G1.left rfl (by omega) h1.1) ?_
    have h2:=eO (f:=G1.f) (budget:=G1.left) (.er 1) h1.1 (by omega) trivial
    have e2:cM G1.f G1.left (.er 1)=df ⟨G1.f.ps,G1.f.bs⟩ 1 G1.left:=rfl
    generalize df ⟨G1.f.ps,G1.f.bs⟩ 1 G1.left=G2 at *
    rw [e2] at h2
    rw [bu _ _ _ _ _ e2] at hX
    simp only [go_sem,hP]
    split
    ·rename_i hG2
     rw [if_neg (fun e=>e hG2)] at hX
     refine aa kK (by exact m0 1 1 rfl) ?_
     simp only [go_sem,hP]
     refine aa kK (by exact iT G2.f.ps G2.f.bs _ 0 0 (headM 1) 16 G2.left rfl (by omega) (bT _) (by decide) h2.1) ?_
     have h3:=eO (f:=G2.f) (budget:=G2.left) (.wr 0 0 (headM 1)) h2.1 (by omega) (by show (headM 1).length<_;rw [bT];decide)
     have e3:cM G2.f G2.left (.wr 0 0 (headM 1))=cy ⟨G2.f.ps,G2.f.bs⟩ 0 0 (headM 1) G2.left:=rfl
     generalize cy ⟨G2.f.ps,G2.f.bs⟩ 0 0 (headM 1) G2.left=G3 at *
     rw [e3] at h3
     rw [bu _ _ _ _ _ e3] at hX
     simp only [go_sem,hP]
     refine⟨by kernel_rfl,?_⟩
     split
     ·rename_i hG3
      rw [if_pos hG3] at hX
      refine aa kK (by exact bU G3.f.ps G3.f.bs _ G3.err rfl) ?_
      rw [fin G3 hG3 hX]
      simp only [go_sem,hP]
     ·rename_i hG3
      rw [if_neg hG3] at hX
      simp only [cv] at hX
      subst hX
      rw [if_neg (fun e=>e rfl)] at hR
      refine aa kK (by exact p9 G3.f.ps G3.f.bs _ rfl (by omega)) ?_
      subst hR
      simp only [go_sem,hP]
    ·rename_i hG2
     rw [if_pos hG2] at hX
     refine aa kK (by exact bU G2.f.ps G2.f.bs _ G2.err rfl) ?_
     rw [fin G2 hG2 hX]
     simp only [go_sem,hP]
   ·rename_i hG1
    rw [if_pos hG1] at hX
    refine aa kK (by exact bU G1.f.ps G1.f.bs _ G1.err rfl) ?_
    rw [fin G1 hG1 hX]
    simp only [go_sem,hP]
def bV (ps pages:Int):Fl:=if ps<512∨8192<ps∨pages<1∨8<pages then ⟨0,[]⟩ else ⟨ps,List.replicate (ps*pages).toNat 255⟩
def jM (ps pages:Int):Int:=if ps<512∨8192<ps∨pages<1∨8<pages then 9 else 0
set_option maxHeartbeats 1000000 in
theorem xl (ps pages:Int):FPure Tryz.prog 27 [.i ps,.i pages] (.tup [Ep (bV ps pages),.i (jM ps pages)]):=by
 refine en Tryz.func27 Tryz.ntmps27 Tryz.results27 [0,1,4,5,6,7,21,29] ?_;intro c hP h0 hE kK
 simp only [go_sem,hP]
 obtain⟨F,hF⟩:∃F,bV ps pages=F:=⟨_,rfl⟩
 obtain⟨e,he⟩:∃e,jM ps pages=e:=⟨_,rfl⟩
 rw [hF,he] at hE kK ⊢
 unfold bV at hF
 unfold jM at he
 have bad:(ps<512∨8192<ps∨pages<1∨8<pages)→F=⟨0,[]⟩∧e=9:=fun h=>by rw [if_pos h] at hF he;exact⟨hF.symm,he.symm⟩
 split
 ·split
  ·split
   ·split
    ·obtain⟨rfl,rfl⟩:=bad (by omega)
     exact⟨⟨rfl,rfl,rfl⟩,rfl⟩
    ·rw [if_neg (by omega)] at hF he
     subst hF he
     obtain⟨p,rfl⟩:=Int.eq_ofNat_of_zero_le (show 0≤ps by omega)
     obtain⟨k,rfl⟩:=Int.eq_ofNat_of_zero_le (show 0≤pages by omega)
     have hbk:p*k≤8192*8:=Nat.mul_le_mul (by omega) (by omega)
     have hpk:((p:Int)*(k:Int)).toNat=p*k:=by (have e:(p:Int)*(k:Int)=((p*k:Nat):Int):=by simp);rw [e];omega
     rw [hpk] at hE kK
     refine bE a7 ?_
     refine ay hE h0 [0,1,4,5,6,7,21,29] (p*k) (fun i=>⟨38,[(0,.i p),(1,.i k),(4,.ptr 0 0),(6,.ptr 1 0),(7,.i i)],[(2,some ⟨a7,cb (List.replicate i 255)⟩),(1,some ⟨32,[.i p,.sl 2 0 i 1]⟩),(0,some ⟨32,[.i 0,.p (.v (.slice none 0 0))]⟩)],3⟩) [] (fun i=>i) ?_ ?_
     ·refine⟨rfl,?_,?_,rfl,rfl,trivial,fun i h=>h⟩
      ·simp only [go_sem]
      ·simp only [go_sem,List.replicate_zero,qw]
     ·intro i hi
      have hs:cb (List.replicate i 255)++[.p (.v (.int .u8 255))]=cb (List.replicate (i+1) 255):=by
       rw [List.replicate_succ',←eh];rfl
      simp only [go_sem,hP,gK p k (by omega),hs]
      split
      ·(try go_unwrap)
       refine⟨⟨by omega,by omega⟩,by omega,aZ [0,1,4] rfl ?_ ?_ rfl rfl (Nat.le_refl _)⟩
       ·simp only [go_sem]
        omega
       ·simp only [go_sem]
        exact aj _ _ _ _
      ·obtain rfl:i=p*k:=by omega
       simp only [List.length_replicate,List.take_of_length_le (Nat.le_of_eq (List.length_replicate)),and_self,Nat.le_refl]
   ·obtain⟨rfl,rfl⟩:=bad (by omega)
    exact⟨⟨rfl,rfl,rfl⟩,rfl⟩
  ·obtain⟨rfl,rfl⟩:=bad (by omega)
   exact⟨⟨rfl,rfl,rfl⟩,rfl⟩
 ·obtain⟨rfl,rfl⟩:=bad (by omega)
  exact⟨⟨rfl,rfl,rfl⟩,rfl⟩
end Go.Proofs.YtebndjnkmcahaaaGreatDoor
end
section
namespace Go.Proofs.YtebndjnkmcahaaaGreatDoor
set_option linter.unusedSimpArgs false
set_option linter.unusedVariables false
open Go Go.Abs
theorem iU (page:List UInt8) (g:UInt64):∀(f f' a:Nat),page.length<a+f→page.length<a+f'→cg page g f a=cg page g f' a
 | 0,0,a,_,_=>rfl
 | 0,f'+1,a,h,_=>by
  have:bG page g a=[]:=by unfold bG;rw [if_pos (by omega)]
  simp [cg,this]
 | f+1,0,a,_,h=>by
  have:bG page g a=[]:=by unfold bG;rw [if_pos (by omega)]
  simp [cg,this]
 | f+1,f'+1,a,h,h'=>by
  simp only [cg]
  split
  ·rfl
  ·rename_i hp
   have:=iS page g a hp
   rw [iU page g f f' _ (by omega) (by omega)]
def scanA (page:List UInt8) (g:UInt64) (a:Nat):List (List UInt8)×Nat:=cg page g (page.length+1) a
theorem ke (page:List UInt8) (g:UInt64) (h:1≤page.length):ci page g=scanA page g 16:=iU page g _ _ _ (by omega) (by omega)
theorem c7 (page:List UInt8) (g:UInt64) (a:Nat) (h:bG page g a=[]):scanA page g a=([],a):=by
 unfold scanA;simp only [cg,h,if_true]
theorem fg (page:List UInt8) (g:UInt64) (a:Nat) (h:bG page g a≠[]) :
 scanA page g a=(bG page g a::(scanA page g (a+10+(bG page g a).length)).1,(scanA page g (a+10+(bG page g a).length)).2):=by
 unfold scanA
 have hle:=iS page g a h
 rw [show cg page g (page.length+1) a=(bG page g a::(cg page g page.length (a+10+(bG page g a).length)).1,(cg page g page.length (a+10+(bG page g a).length)).2) by simp only [cg,if_neg h]]
 rw [iU page g page.length (page.length+1) _ (by omega) (by omega)]
theorem C9 (page:List UInt8) (g:UInt64) (a:Nat) (h:a≤page.length):a≤(scanA page g a).2∧(scanA page g a).2≤page.length:=by
 have:=pd page g (page.length+1) a h
 exact⟨this.2,this.1⟩
theorem Aw (page:List UInt8) (g:UInt64):∀(m a:Nat),page.length-a≤m→bG page g (scanA page g a).2=[]
 | 0,a,h=>by
  have:bG page g a=[]:=by unfold bG;rw [if_pos (by omega)]
  rw [c7 _ _ _ this];exact this
 | m+1,a,h=>by
  by_cases hp:bG page g a=[]
  ·rw [c7 _ _ _ hp];exact hp
  ·rw [fg _ _ _ hp]
   have:=iS page g a hp
   exact Aw page g m _ (by omega)
structure Agree (t:Nat) (x y:List UInt8):Prop where
 len:x.length=y.length
 get:∀i,i<t→x.getD i 0=y.getD i 0
theorem Agree.cut {t:Nat} {x y:List UInt8} (h:Agree t x y) {a m:Nat} (hm:a+m≤t):(x.drop a).take m=(y.drop a).take m:=by
 apply List.ext_getElem
 ·simp [h.len]
 ·intro i h1 h2
  have hi:i<m:=by simp at h1;omega
  have hx:a+i<x.length:=by simp at h1;omega
  have hy:a+i<y.length:=by simp at h2;omega
  have:=h.get (a+i) (by omega)
  simp only [List.getElem_take,List.getElem_drop]
  simpa [List.getD_eq_getElem?_getD,hx,hy] using this
theorem Agree.lenA {t:Nat} {x y:List UInt8} (h:Agree t x y) {a:Nat} (ha:a+2≤t):aq x a=aq y a:=by
 unfold aq;rw [h.get a (by omega),h.get (a+1) (by omega)]
theorem rF {page:List UInt8} {g:UInt64} {a:Nat} (h:bG page g a≠[]):bG page g a=(page.drop (a+2)).take (aq page a)∧a+10+aq page a≤page.length∧1≤aq page a∧aq page a≤256∧(bG page g a).length=aq page a ∧
 (page.drop (a+2+aq page a)).take 8=mZ g ((page.drop (a+2)).take (aq page a)):=by
 unfold bG at h ⊢
 split at h
 ·exact absurd rfl h
 ·rename_i h1
  rw [if_neg h1]
  split at h
  ·exact absurd rfl h
  ·rename_i h2
   rw [if_neg h2]
   split at h
   ·exact absurd rfl h
   ·rename_i h3
    rw [if_neg h3]
    exact⟨rfl,by omega,by omega,by omega,by simp;omega,by simpa using h3⟩
theorem tE {page:List UInt8} {g:UInt64} {a n:Nat} (hn:aq page a=n) (h1:a+10+n≤page.length) (h2:1≤n) (h3:n≤256) (h4:(page.drop (a+2+n)).take 8=mZ g ((page.drop (a+2)).take n)):bG page g a=(page.drop (a+2)).take n:=by
 subst hn
 unfold bG
 rw [if_neg (by omega),if_neg (by omega),if_neg (fun e=>e h4)]
theorem Agree.pay {t:Nat} {x y:List UInt8} (h:Agree t x y) {g:UInt64} {a:Nat} (hp:bG x g a≠[]) (ht:a+10+(bG x g a).length≤t):bG y g a=bG x g a:=by
 obtain⟨e1,e2,e3,e4,e5,e6⟩:=rF hp
 have hl:=h.lenA (a:=a) (by omega)
 rw [e1,hl]
 rw [hl] at e2 e3 e4 e5 e6
 rw [e5] at ht
 rw [h.cut (show a+2+aq y a≤t by omega),h.cut (show a+2+aq y a+8≤t by omega)] at e6
 rw [h.cut (show a+2+aq y a≤t by omega)]
 exact tE rfl (by rw [← h.len];omega) e3 e4 e6
theorem ld {x y:List UInt8} {g:UInt64}:∀(m a:Nat),x.length-a≤m→Agree (scanA x g a).2 x y→scanA y g a=((scanA x g a).1++(scanA y g (scanA x g a).2).1,(scanA y g (scanA x g a).2).2)
 | 0,a,h,hag=>by
  have hp:bG x g a=[]:=by unfold bG;rw [if_pos (by omega)]
  rw [c7 _ _ _ hp];simp
 | m+1,a,h,hag=>by
  by_cases hp:bG x g a=[]
  ·rw [c7 _ _ _ hp];simp
  ·have hn:=fg x g a hp
   have hle:=iS x g a hp
   have hge:=C9 x g (a+10+(bG x g a).length) hle.1
   rw [hn] at hag
   have hy:bG y g a=bG x g a:=hag.pay hp hge.1
   have ih:=ld m (a+10+(bG x g a).length) (by omega) hag
   rw [fg y g a (by rw [hy];exact hp),hy,ih,hn]
   simp
theorem dj (x y:List UInt8) (i:Nat):(x++y).getD i 0=if i<x.length then x.getD i 0 else y.getD (i-x.length) 0:=by
 simp only [List.getD_eq_getElem?_getD,List.getElem?_append]
 split<;>rfl
theorem m5 (w:UInt64):∀k i,i<k→(cr w k).getD i 0=(eH w (56-8*i)).toUInt8
 | 0,i,h=>by omega
 | k+1,i,h=>by
  simp only [cr,dj,au]
  split
  ·exact m5 w k i ‹_›
  ·obtain rfl:i=k:=by omega
   simp
theorem yL (w:UInt64) (r:List UInt64):az (w::r) 1=cr w 8:=by simp [az]
theorem yM (w v:UInt64) (r:List UInt64):az (w::v::r) 2=cr w 8++cr v 8:=by simp [az]
theorem gR {x y:List UInt8}:∀k,(∀i,i<k→x.getD i 0=y.getD i 0)→av x k=av y k
 | 0,_=>rfl
 | k+1,h=>by simp only [av];rw [gR k fun i hi=>h i (by omega),h k (by omega)]
theorem fh (x:List UInt8):∀k,k≤8→(av x k).toNat<2^(8*k)
 | 0,_=>by simp [av]
 | k+1,h=>by
  have ih:=fh x k (by omega)
  simp only [av,UInt64.toNat_or,c9,UInt64.toNat_ofNat',UInt8.toNat_toUInt64]
  have hx:=(x.getD k 0).toNat_lt
  have h8:2^(8*(k+1))=2^(8*k)*256:=by rw [Nat.mul_add,Nat.pow_add]
  have hp:2^(8*(k+1))≤2^64:=Nat.pow_le_pow_right (by decide) (by omega)
  refine Nat.or_lt_two_pow ?_ ?_
  ·have:(av x k).toNat*2^8<2^(8*(k+1)):=by rw [h8];omega
   omega
  ·have:256≤2^(8*(k+1)):=by rw [h8];have:=Nat.one_le_two_pow (n:=8*k);omega
   omega
theorem gv (x:List UInt8) (k:Nat) (h:k<8):(av x (k+1)).toNat=(av x k).toNat*256+(x.getD k 0).toNat:=by
 have ih:=fh x k (by omega)
 have hx:=(x.getD k 0).toNat_lt
 have h8:2^(8*(k+1))=2^(8*k)*256:=by rw [Nat.mul_add,Nat.pow_add]
 have hp:2^(8*(k+1))≤2^64:=Nat.pow_le_pow_right (by decide) (by omega)
 simp only [av,UInt64.toNat_or,c9,UInt64.toNat_ofNat',UInt8.toNat_toUInt64]
 have hlt:(av x k).toNat*2^8<2^64:=by
  have:(av x k).toNat*2^8<2^(8*(k+1)):=by rw [h8];omega
  omega
 rw [Nat.mod_eq_of_lt hlt,Nat.mul_comm,←Nat.two_pow_add_eq_or_of_lt (by omega),Nat.mul_comm]
theorem rG (w:UInt64):∀k,k≤8→(av (cr w 8) k).toNat=w.toNat/2^(64-8*k)
 | 0,_=>by
  have:=w.toNat_lt
  simp only [av,Nat.mul_zero,Nat.sub_zero]
  rw [Nat.div_eq_of_lt this];rfl
 | k+1,h=>by
  rw [gv _ _ (by omega),rG w k (by omega),m5 w 8 k (by omega)]
  simp only [eH]
  have hw:=w.toNat_lt
  rw [UInt64.toNat_toUInt8,UInt64.toNat_ofNat']
  have e:64-8*k=(64-8*(k+1))+8:=by omega
  have e':56-8*k=64-8*(k+1):=by omega
  rw [e',e,Nat.pow_add]
  generalize hd:w.toNat/2^(64-8*(k+1))=d
  have hdl:d<2^64:=by rw [← hd];exact Nat.lt_of_le_of_lt (Nat.div_le_self _ _) hw
  rw [Nat.mod_eq_of_lt hdl,←Nat.div_div_eq_div_mul,hd]
  omega
theorem yN (w:UInt64):av (cr w 8) 8=w:=by
 apply UInt64.toNat_inj.1
 rw [rG w 8 (Nat.le_refl _)];simp
theorem qa (g:UInt64) (r:List UInt8):av (headM g++r) 8=g:=by
 have:av (headM g++r) 8=av (cr g 8) 8:=by
  refine gR 8 fun i hi=>?_
  rw [dj,bT,if_pos (by omega)]
  unfold headM
  rw [yM,dj,au,if_pos hi]
 rw [this,yN]
theorem yO {page:List UInt8} {g:UInt64} (h:page.take 16=headM g) (h1:1≤g.toNat) (h2:g.toNat≤1099511627776):aN page=g.toNat:=by
 have hw:av page 8=g:=by
  rw [← eC page 16 8 (by decide),h]
  have:=qa g []
  rwa [List.append_nil] at this
 unfold aN
 rw [hw,if_neg]
 rintro (h|h|h)
 ·omega
 ·omega
 ·exact h ‹_›
theorem Ax {x y:List UInt8} (h:x.take 16=y.take 16):aN x=aN y:=by
 have hw:av x 8=av y 8:=by rw [← eC x 16 8 (by decide),h,eC y 16 8 (by decide)]
 unfold aN;rw [hw,h]
end Go.Proofs.YtebndjnkmcahaaaGreatDoor
end
end
section
namespace Go.Proofs.YtebndjnkmcahaaaGreatDoor
set_option linter.unusedSimpArgs false
set_option linter.unusedVariables false
open Go Go.Abs Go.RowKit
def wrsM (page:Int) (g:UInt64):Nat→List (List UInt8)→List JOp
 | _,[]=>[]
 | t,b::l => .wr page t (aY g b)::wrsM page g (t+10+b.length) l
def fw (j:Jn) (l:List (List UInt8)):List JOp :=
 .er (1-j.page)::(wrsM (1-j.page) (UInt64.ofNat (j.gen+1).toNat) 16 l++[.wr (1-j.page) 0 (headM (UInt64.ofNat (j.gen+1).toNat))])
def iV (j:Jn) (l:List (List UInt8)) (X:FR):JR :=
 if X.err≠0 then bq X.f X.err else ⟨⟨X.f.ps,X.f.bs,1-j.page,j.gen+1,((16+aR l:Nat):Int),false⟩,X.left,0⟩
def aL (j:Jn) (l:List (List UInt8)) (budget:Int):JR :=
 if aE j=false then ⟨jn0,0,18⟩ else
 if cO l=false then ⟨jn0,0,9⟩ else
 if j.ps<16+(aR l:Int) then ⟨jn0,0,12⟩ else
 if 1099511627776≤j.gen then ⟨jn0,0,13⟩ else
 iV j l (cv (flOf j) budget (fw j l))
theorem xm (l:List (List UInt8)) (i:Nat) (h:i<l.length):l.drop i=l.getD i []::l.drop (i+1):=by
 rw [List.drop_eq_getElem_cons h];simp [List.getD_eq_getElem?_getD,h]
structure J3 (j:Jn) (l:List (List UInt8)) (m:Nat) (g:UInt64) (X:FR) (i:Nat) (G:FR) (a:Int):Prop where
 im:i≤m
 left:i64 G.left
 len:G.f.bs.length<1000000000
 good:G.err=0→a=((16+aR (l.take i):Nat):Int)∧X=cv G.f G.left (wrsM (1-j.page) g (16+aR (l.take i)) (l.drop i)++[.wr (1-j.page) 0 (headM g)])
 bad:G.err≠0→X=G
set_option maxHeartbeats 4000000 in
theorem lg (j:Jn) (n:Nat) (l:List (List UInt8)) (m:Nat) (budget:Int) (hn:j.bs.length=n) (hb:n<1000000000) (hm:l.length=m) (hmb:m<1000000) (hlb:∀b,b∈l→b.length<1000000) (hB:i64 budget) :
 FPure Tryz.prog 138 [.agg [.i j.ps,.p (.data 1 n (j.bs.map bt)),.i j.page,.i j.gen,.i j.tail,.b j.torn],.p (.data 1 m (l.map byP)),.i budget] (sJ (aL j l budget)):=by
 refine en Tryz.func138 Tryz.ntmps138 Tryz.results138 [0,1,2,3,6,7,8,9,10,11,12,13,14,15,16,17,20,30,46,63,78,87,116,143,155] ?_;intro c hP h0 hE kK
 simp only [go_sem,hP]
 refine aa kK (by exact gu j n hn hb) ?_
 simp only [go_sem,hP]
 obtain⟨R,hR⟩:∃R,aL j l budget=R:=⟨_,rfl⟩;rw [hR] at hE kK;(try rw [hR])
 unfold aL at hR
 have br:∀e,e≠16→bq ⟨j.ps,j.bs⟩ e=⟨jn0,0,e⟩:=fun e he=>by unfold bq;rw [if_neg he]
 split
 ·rename_i h
  rw [if_pos h] at hR
  subst hR
  refine aa kK (by exact bU j.ps j.bs n 18 hn) ?_
  rw [br 18 (by decide)]
  simp only [go_sem,hP]
 ·rename_i h
  rw [if_neg h] at hR
  have h:aE j=true:=by simpa using h
  obtain⟨p,k,q,e1,e2,e3,e4,e5,e6,e7,e8,e9,e10,-⟩:=bF h
  have htb:=tC l hlb
  refine bo hE h0 [0,1,2,3,6,7,8,9,10,11,12,13,14,15,16,17,20,30,46,63,78,87,116,143,155] (α:={ i:Nat // i≤m∧cO (l.take i)=true }) (fun i=>⟨168,[(1,.p (.data 1 m (l.map byP))),(2,.i budget),(3,.ptr 0 0),(6,.ptr 1 0),(7,.i 0),(8,.i 0),(9,.i 16),(10,.i i.1)],
   [(1,some ⟨34,[.i 0,.p (.v (.slice none 0 0)),.i 0,.i 0,.i 0,.b false]⟩),(0,some ⟨34,[.i j.ps,.p (.data 1 n (j.bs.map bt)),.i j.page,.i j.gen,.i j.tail,.b j.torn]⟩)],2⟩) (fun i=>m-i.1) ⟨0,Nat.zero_le _,by simp [cO]⟩ [] (fun i=>i) ?_ ?_
  ·refine⟨rfl,?_,?_,rfl,rfl,trivial,fun i h=>h⟩
   ·simp only [go_sem]
   ·simp only [go_sem]
  ·rintro⟨i,hi,hs⟩
   simp only [go_sem,hP,dq,byP]
   have nine:¬(1≤(l.getD i []).length∧(l.getD i []).length≤256)→i<m→R=⟨jn0,0,9⟩:=fun h2 hi=>by
    rw [if_pos (rD (by omega) h2)] at hR;exact hR.symm
   split
   ·rename_i him
    refine⟨⟨by omega,by omega⟩,by omega,?_⟩
    split
    ·refine⟨⟨by omega,by omega⟩,by omega,?_⟩
     split
     ·have:=nine (by omega) (by omega)
      subst this
      refine aa kK (by exact bU j.ps j.bs n 9 hn) ?_
      rw [br 9 (by decide)]
      simp only [go_sem,hP]
     ·have hts:=gt l i (by omega)
      (try go_unwrap)
      refine⟨⟨i+1,by omega,?_⟩,by show m-(i+1)<m-i;omega,dp rfl ?_ ?_ rfl rfl (Nat.le_refl _)⟩
      ·rw [hts];unfold cO at hs ⊢;rw [List.all_append,hs];simp only [List.all_cons,List.all_nil,Bool.true_and,Bool.and_true,decide_eq_true_eq];omega
      ·simp only [go_sem,byP]
       omega
      ·simp only [go_sem]
    ·have:=nine (by omega) (by omega)
     subst this
     refine aa kK (by exact bU j.ps j.bs n 9 hn) ?_
     rw [br 9 (by decide)]
     simp only [go_sem,hP]
   ·obtain rfl:i=m:=by omega
    rw [List.take_of_length_le (by omega)] at hs
    rw [if_neg (by rw [hs];decide)] at hR
    clear nine
    refine bo hE h0 [0,1,2,3,6,7,8,9,10,11,12,13,14,15,16,17,20,30,46,63,78,87,116,143,155] (α:={ a:Nat // a≤i }) (fun a=>⟨168,[(1,.p (.data 1 i (l.map byP))),(2,.i budget),(3,.ptr 0 0),(6,.ptr 1 0),(7,.i 0),(8,.i 0),(9,.i ((16+aR (l.take a.1):Nat):Int)),(11,.i a.1)],
     [(1,some ⟨34,[.i 0,.p (.v (.slice none 0 0)),.i 0,.i 0,.i 0,.b false]⟩),(0,some ⟨34,[.i j.ps,.p (.data 1 n (j.bs.map bt)),.i j.page,.i j.gen,.i j.tail,.b j.torn]⟩)],2⟩) (fun a=>i-a.1) ⟨0,Nat.zero_le _⟩ [] (fun i=>i) ?_ ?_
    ·refine⟨rfl,?_,?_,rfl,rfl,trivial,fun i h=>h⟩
     ·simp only [go_sem]
      simp [aR]
     ·simp only [go_sem]
    ·rintro⟨a,ha⟩
     have hta:=ff l a
     simp only [go_sem,hP,dq,byP]
     have twelve:j.ps<16+(aR l:Int)→R=⟨jn0,0,12⟩:=fun h2=>by rw [if_pos h2] at hR;exact hR.symm
     split
     ·split
      ·refine⟨⟨by omega,by omega⟩,by omega,?_⟩
       have hts:=gt l a (by omega)
       have ht2:=ff l (a+1)
       rw [hts,dR] at ht2
       simp only [aR] at ht2
       (try go_unwrap)
       refine⟨⟨a+1,by omega⟩,by show i-(a+1)<i-a;omega,dp rfl ?_ ?_ rfl rfl (Nat.le_refl _)⟩
       ·simp only [go_sem,hts,dR,aR,byP]
        omega
       ·simp only [go_sem]
      ·rw [if_pos (by omega)]
       have:=twelve (by omega)
       subst this
       refine aa kK (by exact bU j.ps j.bs n 12 hn) ?_
       rw [br 12 (by decide)]
       simp only [go_sem,hP]
     ·obtain rfl:a=i:=by omega
      rw [List.take_of_length_le (by omega)] at hta ⊢
      split
      ·have:=twelve (by omega)
       subst this
       refine aa kK (by exact bU j.ps j.bs n 12 hn) ?_
       rw [br 12 (by decide)]
       simp only [go_sem,hP]
      ·rw [if_neg (by omega)] at hR
       clear twelve
       split
       ·rename_i h3
        rw [if_pos h3] at hR
        subst hR
        refine aa kK (by exact bU j.ps j.bs n 13 hn) ?_
        rw [br 13 (by decide)]
        simp only [go_sem,hP]
       ·rename_i h3
        rw [if_neg h3] at hR
        refine⟨by kernel_rfl,?_⟩
        rw [ab (n:=1-j.page) (by omega) (by omega),ab (n:=j.gen+1) (by omega) (by omega)]
        have hgu:=dZ (j.gen+1) (by omega) (by omega)
        obtain⟨X,hX⟩:∃X,cv (flOf j) budget (fw j l)=X:=⟨_,rfl⟩
        rw [hX] at hR
        unfold fw at hX
        refine aa kK (by exact p7 j.ps j.bs n (1-j.page) budget hn hb hB) ?_
        have h1:=eO (f:=flOf j) (budget:=budget) (.er (1-j.page)) hB (by show j.bs.length<_;omega) trivial
        have e1:cM (flOf j) budget (.er (1-j.page))=df ⟨j.ps,j.bs⟩ (1-j.page) budget:=rfl
        generalize df ⟨j.ps,j.bs⟩ (1-j.page) budget=G1 at *
        rw [e1] at h1
        rw [bu _ _ _ _ _ e1] at hX
        generalize hg:UInt64.ofNat (j.gen+1).toNat=g at *
        simp only [go_sem,hP]
        have hlj:(flOf j).bs.length=n:=hn
        refine bo hE h0 [0,1,2,3,6,7,8,9,10,11,12,13,14,15,16,17,20,30,46,63,78,87,116,143,155] (α:={ x:Nat×FR×Int // J3 j l a g X x.1 x.2.1 x.2.2 }) (fun x=>⟨168,[(1,.p (.data 1 a (l.map byP))),(2,.i x.1.2.1.left),(3,.ptr 0 0),(6,.ptr 1 0),(7,.i 0),(8,.i 0),(12,.i (1-j.page)),(13,.i (j.gen+1)),(14,.i x.1.2.2),(15,.ptr 2 0),(16,.i x.1.2.1.err),(17,.i x.1.1)],
         (2,some ⟨32,[.i x.1.2.1.f.ps,.p (.data 1 x.1.2.1.f.bs.length (x.1.2.1.f.bs.map bt))]⟩)::[(1,some ⟨34,[.i 0,.p (.v (.slice none 0 0)),.i 0,.i 0,.i 0,.b false]⟩),(0,some ⟨34,[.i j.ps,.p (.data 1 n (j.bs.map bt)),.i j.page,.i j.gen,.i j.tail,.b j.torn]⟩)],3⟩) (fun x=>a-x.1.1) ⟨(0,G1,16),?_⟩ [] (fun i=>i) ?_ ?_
        ·refine⟨Nat.zero_le _,h1.1,by show G1.f.bs.length<_;omega,fun he=>⟨by simp [aR],?_⟩,fun he=>?_⟩
         ·rw [if_neg (fun e=>e he)] at hX;rw [← hX];simp [aR]
         ·rw [if_pos he] at hX;exact hX.symm
        ·refine⟨rfl,?_,?_,rfl,rfl,trivial,fun i h=>h⟩
         ·simp only [go_sem]
         ·simp only [go_sem]
        ·rintro⟨⟨b,G,t⟩,hat⟩
         obtain⟨hba,hGl,hGb,hgood,hbad⟩:=hat
         simp only at hba hGl hGb hgood hbad
         simp only [go_sem,hP,dq,byP]
         have fin:G.err≠0→bq ⟨G.f.ps,G.f.bs⟩ G.err=R:=fun he=>by
          rw [hbad he] at hR;unfold iV at hR;rw [if_pos he] at hR;exact hR
         split
         ·split
          ·rename_i hG
           obtain⟨rfl,hX'⟩:=hgood hG
           refine⟨⟨by omega,by omega⟩,by omega,?_⟩
           have hel:1≤(l.getD b []).length∧(l.getD b []).length≤256:=p6 hs (by rw [show l.getD b []=l[b]'(by omega) from by simp [List.getD_eq_getElem?_getD,show b<l.length by omega]];exact List.getElem_mem _)
           refine aa kK (by exact tA g (j.gen+1) hgu (l.getD b []) _ rfl (by omega)) ?_
           simp only [go_sem,hP]
           refine aa kK (by exact iT G.f.ps G.f.bs _ (1-j.page) _ (aY g (l.getD b [])) _ G.left rfl hGb (by rw [bp]) (by omega) hGl) ?_
           have e2:cM G.f G.left (.wr (1-j.page) ((16+aR (l.take b):Nat):Int) (aY g (l.getD b [])))=cy ⟨G.f.ps,G.f.bs⟩ (1-j.page) ((16+aR (l.take b):Nat):Int) (aY g (l.getD b [])) G.left:=rfl
           have h2:=eO (f:=G.f) (budget:=G.left) (.wr (1-j.page) ((16+aR (l.take b):Nat):Int) (aY g (l.getD b []))) hGl hGb (by show (aY g (l.getD b [])).length<_;rw [bp];omega)
           rw [xm l b (by omega)] at hX'
           simp only [wrsM,List.cons_append] at hX'
           rw [bu _ _ _ _ _ e2] at hX'
           rw [e2] at h2
           generalize cy ⟨G.f.ps,G.f.bs⟩ (1-j.page) ((16+aR (l.take b):Nat):Int) (aY g (l.getD b [])) G.left=H at *
           simp only [go_sem,hP,dq,byP]
           have hts:=gt l b (by omega)
           have ht2:=ff l (b+1)
           rw [hts,dR] at ht2
           simp only [aR] at ht2
           have htt:aR (l.take (b+1))=aR (l.take b)+10+(l.getD b []).length:=by rw [hts,dR];simp only [aR];omega
           refine⟨by kernel_rfl,⟨by omega,by omega⟩,by omega,?_⟩
           (try go_unwrap)
           refine⟨⟨(b+1,H,((16+aR (l.take (b+1)):Nat):Int)),⟨by show b+1≤a;omega,h2.1,Nat.lt_of_le_of_lt h2.2 hGb,fun he=>⟨rfl,?_⟩,fun he=>?_⟩⟩,by show a-(b+1)<a-b;omega,dp rfl ?_ ?_ rfl rfl (Nat.le_refl _)⟩
           ·have he:H.err=0:=he
            rw [if_neg (fun e=>e he)] at hX'
            rw [hX',htt,←Nat.add_assoc,←Nat.add_assoc]
           ·have he:H.err≠0:=he
            rw [if_pos he] at hX';exact hX'
           ·simp only [go_sem,htt]
            omega
           ·simp only [go_sem]
          ·rename_i hG
           refine aa kK (by exact bU G.f.ps G.f.bs _ G.err rfl) ?_
           rw [fin hG]
           simp only [go_sem,hP]
         ·obtain rfl:b=a:=by omega
          split
          ·rename_i hG
           obtain⟨rfl,hX'⟩:=hgood hG
           rw [List.take_of_length_le (by omega),List.drop_eq_nil_of_le (by omega)] at hX'
           simp only [wrsM,List.nil_append] at hX'
           refine aa kK (by exact m0 g (j.gen+1) hgu) ?_
           simp only [go_sem,hP]
           refine aa kK (by exact iT G.f.ps G.f.bs _ (1-j.page) 0 (headM g) 16 G.left rfl hGb (bT _) (by decide) hGl) ?_
           have e2:cM G.f G.left (.wr (1-j.page) 0 (headM g))=cy ⟨G.f.ps,G.f.bs⟩ (1-j.page) 0 (headM g) G.left:=rfl
           rw [bu _ _ _ _ _ e2] at hX'
           generalize cy ⟨G.f.ps,G.f.bs⟩ (1-j.page) 0 (headM g) G.left=H at *
           simp only [go_sem,hP]
           refine⟨by kernel_rfl,?_⟩
           unfold iV at hR
           split
           ·rename_i hH
            rw [if_pos hH] at hX'
            rw [hX',if_pos hH] at hR
            refine aa kK (by exact bU H.f.ps H.f.bs _ H.err rfl) ?_
            have hx:bq ⟨H.f.ps,H.f.bs⟩ H.err=R:=hR
            rw [hx]
            simp only [go_sem,hP]
           ·rename_i hH
            rw [if_neg hH] at hX'
            simp only [cv] at hX'
            subst hX'
            rw [if_neg (fun e=>e rfl)] at hR
            subst hR
            rw [List.take_of_length_le (by omega)]
            simp only [and_self]
          ·rename_i hG
           refine aa kK (by exact bU G.f.ps G.f.bs _ G.err rfl) ?_
           rw [fin hG]
           simp only [go_sem,hP]
end Go.Proofs.YtebndjnkmcahaaaGreatDoor
end
