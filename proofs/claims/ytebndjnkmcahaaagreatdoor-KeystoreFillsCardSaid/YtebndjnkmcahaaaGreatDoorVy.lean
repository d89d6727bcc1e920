/- joined of several texts; own work; no statement of the seat is proved but in the last -/
import Derived.Test.YtebndjnkmcahaaaGreatDoorVk
section
namespace Go.Proofs.YtebndjnkmcahaaaGreatDoor
set_option linter.unusedSimpArgs false
set_option linter.unusedVariables false
open Go Go.Abs Go.RowKit
theorem ga (p:Int×List UInt8):(aM [p]).length=3+p.2.length:=by rw [bA];simp [szM]
theorem v7:∀s:ag,aR (aI s)=10*s.length+szM s
 | []=>rfl
 | p::s=>by
  show aR (aM [p]::aI s)=_
  rw [aR,ga,v7 s]
  simp only [szM,List.length_cons]
  omega
theorem xv {s:ag} (h:∀x,x∈s→3+x.2.length≤256):cO (aI s)=true:=by
 unfold cO aI
 rw [List.all_eq_true]
 intro b hb
 obtain⟨p,hp,rfl⟩:=List.mem_map.1 hb
 have:=h p hp
 rw [ga]
 simp;omega
theorem qu:∀l:ag,(∀x,x∈l→0≤x.1∧x.1≤255∧x.2.length<65536)→cw (aM l)=some l
 | [],_=>rfl
 | p::l,h=>by
  obtain⟨h1,h2,h3⟩:=h p (by simp)
  have ih:=qu l (fun x hx=>h x (by simp [hx]))
  have hb:aM (p::l)=u8i p.1::UInt8.ofNat (p.2.length/256)::UInt8.ofNat p.2.length::(p.2++aM l):=by simp [aM]
  have hl:(aM (p::l)).length=3+p.2.length+(aM l).length:=by rw [hb];simp;omega
  have hla:aq (aM (p::l)) 1=p.2.length:=by
   rw [hb]
   show (UInt8.ofNat (p.2.length/256)).toNat*256+(UInt8.ofNat p.2.length).toNat=_
   rw [UInt8.toNat_ofNat',UInt8.toNat_ofNat']
   omega
  have hk:(((aM (p::l)).getD 0 0).toNat:Int)=p.1:=by
   rw [hb]
   show ((u8i p.1).toNat:Int)=_
   rw [oc,bW];omega
  have hn:=gS (aM (p::l)) (by rw [hb];simp) (by omega) (by omega)
  rw [hla,hk] at hn
  have hd:(aM (p::l)).drop (3+p.2.length)=aM l:=by rw [hb,←List.drop_drop];simp
  have ht:((aM (p::l)).drop 3).take p.2.length=p.2:=by rw [hb];simp
  rw [hd,ht,ih] at hn
  rw [hn];rfl
theorem xw (r:List (List UInt8)) (b:List UInt8):bO (r++[b])=bv (bO r) (aP b):=by
 unfold bO;rw [List.foldl_append];rfl
theorem DC:∀(l:ag) (seen:List Int),gE seen l=0→∀x,x∈l→0≤x.1∧x.1≤255
 | [],_,_,x,hx=>by cases hx
 | p::l,seen,h,x,hx=>by
  simp only [gE] at h
  split at h
  ·cases h
  ·rename_i h1
   split at h
   ·cases h
   ·rcases List.mem_cons.1 hx with rfl|hx
    ·omega
    ·exact DC l _ h x hx
theorem yZ:∀{l:ag} {x:Int×List UInt8},x∈l→3+x.2.length≤szM l
 | p::l,x,h=>by
  simp only [szM]
  rcases List.mem_cons.1 h with rfl|h
  ·omega
  ·have:=yZ h;omega
theorem v8 {l:ag} (h:cd l=0):1≤szM l∧szM l≤256∧∀x,x∈l→0≤x.1∧x.1≤255∧3+x.2.length≤256:=by
 unfold cd at h
 split at h
 ·cases h
 ·rename_i hne
  split at h
  ·rename_i h1;exact absurd h h1
  ·rename_i h1
   split at h
   ·cases h
   ·rename_i h2
    have h1:gE [] l=0:=by simpa using h1
    refine⟨?_,by omega,fun x hx=>?_⟩
    ·cases l with
     | nil=>exact absurd rfl hne
     | cons p l=>simp only [szM];omega
    ·have:=DC l [] h1 x hx
     have:=yZ hx
     omega
structure SOk (s:ag) (ps:Int):Prop where
 srt:Srt s
 el:∀x,x∈s→x.2≠[]∧0≤x.1∧x.1≤255∧3+x.2.length≤256
 fit:16+10*(s.length:Int)+(szM s:Int)≤ps
theorem SOk.snap {s:ag} {ps:Int} (h:SOk s ps):bO (aI s)=s:=nJ h.srt (fun x hx=>by have:=h.el x hx;exact⟨this.1,this.2.1,this.2.2.1,by omega⟩)
theorem SOk.with {s l:ag} {ps:Int} (h:SOk s ps) (ha:cd l=0) (hf:¬ps<16+10*((bv s l).length:Int)+(szM (bv s l):Int)):SOk (bv s l) ps:=by
 obtain⟨_,_,hal⟩:=v8 ha
 obtain⟨h1,h2⟩:=fC l s h.srt
 refine⟨by rw [h1];exact h2,fun x hx=>?_,by omega⟩
 rcases kn hx with ⟨hx,hn⟩|hx
 ·exact⟨hn,hal x hx⟩
 ·exact h.el x hx
structure VOk (v:Vt) (G:Int):Prop where
 mt:MtOk v.j
 pr:v.prs=aF v.j
 so:SOk v.prs v.j.ps
 gen:v.j.gen≤G
structure FOk (f:Fl) (s:ag) (G:Int):Prop where
 err:(mountM f).err=0
 st:aF (mountM f).j=s
 so:SOk s f.ps
 gen:(mountM f).j.gen≤G
theorem DD {v:Vt} {G:Int} (h:VOk v G) (hG:G<1099511627776) (l:ag) (B:Int) :
 ((rputM v l B).err=0∧VOk (rputM v l B).v (G+1)∧(rputM v l B).v.prs=bv v.prs l∧(0≤B→0≤(rputM v l B).left)∧(rputM v l B).v.j.ps=v.j.ps) ∨
 ((rputM v l B).err=16∧(rputM v l B).left=0∧0≤B∧(rputM v l B).v.j.ps=v.j.ps∧(FOk (flOf (rputM v l B).v.j) v.prs (G+1)∨FOk (flOf (rputM v l B).v.j) (bv v.prs l) (G+1))) ∨
 ((rputM v l B).err≠0∧(rputM v l B).err≠16∧(rputM v l B).err=(rputM v l (-1)).err∧(cd l≠0∨v.j.ps<16+10*((bv v.prs l).length:Int)+(szM (bv v.prs l):Int))):=by
 have hgv:¬jQ v=false:=by
  unfold jQ
  rw [h.mt.gen,h.pr];simp
 have hgn:=h.gen
 by_cases ha:cd l=0
 case neg =>
  right;right
  unfold rputM
  rw [if_neg hgv,if_neg hgv,if_pos ha,if_pos ha,me _ _ (qs l)]
  exact⟨ha,qs l,rfl,.inl ha⟩
 have hna:¬cd l≠0:=fun c=>c ha
 by_cases hf:v.j.ps<16+10*((bv v.prs l).length:Int)+(szM (bv v.prs l):Int)
 ·right;right
  unfold rputM
  rw [if_neg hgv,if_neg hgv,if_neg hna,if_neg hna,if_pos hf,if_pos hf,me _ 12 (by decide)]
  exact⟨by decide,by decide,rfl,.inr hf⟩
 have hso:=h.so
 have hsw:=hso.with ha hf
 obtain⟨ha1,ha2,hal⟩:=v8 ha
 have hput:∀B,rputM v l B=if (cj v l B).err≠0 then bg (cj v l B).j (cj v l B).err else ⟨⟨(cj v l B).j,aF (cj v l B).j⟩,(cj v l B).left,0⟩:=fun B=>by
  unfold rputM;rw [if_neg hgv,if_neg hna,if_neg hf]
 have key:((cj v l B).err=0∧MtOk (cj v l B).j∧aF (cj v l B).j=bv v.prs l∧(0≤B→0≤(cj v l B).left)∧(cj v l B).j.gen≤G+1∧(cj v l B).j.ps=v.j.ps) ∨
  ((cj v l B).err=16∧0≤B∧(mountM (flOf (cj v l B).j)).err=0∧(aF (mountM (flOf (cj v l B).j)).j=v.prs∨aF (mountM (flOf (cj v l B).j)).j=bv v.prs l)∧(mountM (flOf (cj v l B).j)).j.gen≤G+1∧(cj v l B).j.ps=v.j.ps):=by
  have hpa:aP (aM l)=l:=by
   unfold aP;rw [qu l (fun x hx=>by have:=hal x hx;omega)];rfl
  have hst:bO (aK v.j)=v.prs:=h.pr.symm
  unfold cj
  by_cases hr:(szM l:Int)≤eN v.j
  ·rw [if_pos hr,←kW]
   have happ:bO (aK v.j++[aM l])=bv v.prs l:=by rw [xw,hpa,hst]
   rcases tb h.mt (aM l) B with ⟨he,hmt,hrec,hlf,hg,hp⟩|⟨he,hlf,hme,hrec,hg,hp,hB⟩|⟨_,_,_,hc⟩
   ·exact .inl ⟨he,hmt,by show bO (aK _)=_;rw [hrec,happ],hlf,by omega,hp⟩
   ·refine .inr ⟨he,hB,hme,?_,by omega,hp⟩
    rcases hrec with hr|hr
    ·left;show bO (aK _)=_;rw [hr,hst]
    ·right;show bO (aK _)=_;rw [hr,happ]
   ·exfalso
    unfold eN at hr
    rw [h.mt.gen,if_pos rfl] at hr
    rw [bA] at hc
    rcases hc with hc|hc|hc
    ·exact hc ⟨ha1,ha2⟩
    ·rw [hc] at hr;unfold ia at hr;rw [if_pos rfl] at hr;omega
    ·omega
  ·rw [if_neg hr,←cC]
   rcases kx h.mt (aI (bv v.prs l)) B with ⟨he,hmt,htn,hrec,hlf,hg,hp⟩|⟨he,hlf,hme,hrec,hg,hp,hB⟩|⟨_,_,_,hbad⟩
   ·exact .inl ⟨he,hmt,by show bO (aK _)=_;rw [hrec,hsw.snap],hlf,by omega,hp⟩
   ·refine .inr ⟨he,hB,hme,?_,by omega,hp⟩
    rcases hrec with hr|hr
    ·left;show bO (aK _)=_;rw [hr,hst]
    ·right;show bO (aK _)=_;rw [hr,hsw.snap]
   ·exfalso
    rcases hbad with hb|hb|hb
    ·rw [xv (fun x hx=>(hsw.el x hx).2.2.2)] at hb;cases hb
    ·have:=hsw.fit
     rw [v7] at hb
     omega
    ·omega
 rw [hput B]
 generalize cj v l B=X at *
 rcases key with ⟨he,hmt,hst,hlf,hg,hp⟩|⟨he,hB,hme,hst,hg,hp⟩
 ·left
  have hne:¬X.err≠0:=fun c=>c he
  rw [if_neg hne]
  exact⟨rfl,⟨hmt,rfl,by show SOk (aF X.j) X.j.ps;rw [hst,hp];exact hsw,hg⟩,hst,hlf,hp⟩
 ·right;left
  have hne:X.err≠0:=by rw [he];decide
  rw [if_pos hne,he]
  have hlo:bg X.j 16=⟨⟨⟨X.j.ps,X.j.bs,0,0,0,false⟩,[]⟩,0,16⟩:=by unfold bg;rw [if_pos rfl]
  rw [hlo]
  refine⟨rfl,rfl,hB,hp,?_⟩
  rcases hst with hs|hs
  ·exact .inl ⟨hme,hs,by show SOk v.prs X.j.ps;rw [hp];exact hso,hg⟩
  ·exact .inr ⟨hme,hs,by show SOk (bv v.prs l) X.j.ps;rw [hp];exact hsw,hg⟩
end Go.Proofs.YtebndjnkmcahaaaGreatDoor
end
section
namespace Go.Proofs.YtebndjnkmcahaaaGreatDoor
set_option linter.unusedSimpArgs false
set_option linter.unusedVariables false
open Go Go.Abs Go.RowKit
theorem DE {f:Fl} {p k:Nat} (hv:VFl f p k) (h11:(mountM f).err=11):(ropenM f (-1)).err=0∧VOk (ropenM f (-1)).v 1∧(ropenM f (-1)).v.prs=[]:=by
 obtain⟨j,hj,hm,hvj,ht,htn,hps,hrec,hgen⟩:=lO hv
 have hj':bx f (-1)=⟨j,-1,0⟩:=by rw [← iO,hj]
 have hst:aF j=[]:=by unfold aF;rw [hrec];rfl
 have ho:ropenM f (-1)=⟨⟨j,[]⟩,-1,0⟩:=by
  unfold ropenM
  rw [if_pos h11,hj',if_neg (fun c=>c rfl)]
  unfold fj
  rw [if_pos htn,hst]
 rw [ho]
 refine⟨rfl,⟨hm,hst.symm,⟨by simp [Srt],(fun x hx=>by cases hx),?_⟩,?_⟩,rfl⟩
 ·have:=hv.p1
  show 16+10*(([]:ag).length:Int)+(szM []:Int)≤j.ps
  rw [hps];simp [szM];omega
 ·show j.gen≤1
  omega
theorem DF {f:Fl} {p k:Nat} (hv:VFl f p k) (hb:f.bs=List.replicate (p*k) 255):(mountM f).err=11:=by
 have hp1:=hv.p1
 have hk1:=hv.k1
 have hpk:p*2≤p*k:=Nat.mul_le_mul_left p hk1
 have h0:∀q,q<2→aN (pgM f q)=0:=fun q hq=>by
  refine iN ?_
  unfold pgM
  rw [hb,hv.ps,Int.toNat_natCast]
  have:q*p≤1*p:=Nat.mul_le_mul_right p (by omega)
  rw [List.drop_replicate,List.take_replicate]
  have hmin:min p (p*k-q*p)=p:=by omega
  rw [hmin]
  obtain⟨m,rfl⟩:∃m,p=m+1:=⟨p-1,by omega⟩
  rfl
 unfold mountM
 rw [if_neg (by rw [hv.exam];decide),if_neg (by rw [h0 0 (by decide),h0 1 (by decide)];decide),if_pos (h0 0 (by decide))]
theorem VOk.prl {v:Vt} {G:Int} (h:VOk v G):v.prs.length≤8192:=by rw [h.pr];exact eE _
theorem AI (v:Vt) (l:ag) (B:Int) (hB:i64 B) (hb:v.j.bs.length<1000000000) (hl:∀x,x∈l→x.2.length<1000) (hll:l.length<100) (hv:∀x,x∈v.prs→x.2.length≤8192):(cj v l B).j.bs.length≤v.j.bs.length:=by
 unfold cj
 have hsz:szM l≤l.length*(3+1000):=lj l 1000 (fun x hx=>Nat.le_of_lt (hl x hx))
 have:l.length*(3+1000)≤100*(3+1000):=Nat.mul_le_mul_right _ (by omega)
 split
 ·exact jE _ _ _ hB hb (by rw [bA];omega)
 ·refine cT _ _ _ hB hb (fun b hb=>?_)
  obtain⟨p,hp,rfl⟩:=List.mem_map.1 hb
  rw [ga]
  rcases kn hp with ⟨hp,_⟩|hp
  ·have:=hl p hp;omega
  ·have:=hv p hp;omega
theorem gz (j:Jn) (e:Int):(bg j e).v.j.bs.length≤j.bs.length:=by
 unfold bg;split
 ·exact Nat.le_refl _
 ·exact Nat.zero_le _
theorem mf (v:Vt) (l:ag) (B:Int) (hB:i64 B) (hb:v.j.bs.length<1000000000) (hl:∀x,x∈l→x.2.length<1000) (hll:l.length<100):(rputM v l B).v.j.bs.length≤v.j.bs.length∧(rputM v l B).v.prs.length≤8192:=by
 have h0:∀j e,(bg j e).v.prs.length≤8192:=fun j e=>by unfold bg;split<;>exact Nat.zero_le _
 unfold rputM
 split
 ·exact⟨gz _ _,h0 _ _⟩
 ·rename_i hg
  have hv:∀x,x∈v.prs→x.2.length≤8192:=fun x hx=>by rw [(l9 hg).2] at hx;exact (dy hx).2.2.2
  have:=AI v l B hB hb hl hll hv
  split
  ·exact⟨gz _ _,h0 _ _⟩
  ·split
   ·exact⟨gz _ _,h0 _ _⟩
   ·split
    ·exact⟨Nat.le_trans (gz _ _) this,h0 _ _⟩
    ·exact⟨this,eE _⟩
theorem nh (f:Fl) (B:Int) (hB:i64 B) (hb:f.bs.length<1000000000):(ropenM f B).v.j.bs.length≤f.bs.length∧(ropenM f B).v.prs.length≤8192:=by
 have h0:∀j e,(bg j e).v.prs.length≤8192:=fun j e=>by unfold bg;split<;>exact Nat.zero_le _
 have hE:∀j left,i64 left→j.bs.length≤f.bs.length→(fj j left).v.j.bs.length≤f.bs.length∧(fj j left).v.prs.length≤8192:=fun j left hl hj=>by
  have:=cT j (aI (aF j)) left hl (by omega) (fun b hb=>by
   obtain⟨p,hp,rfl⟩:=List.mem_map.1 hb
   rw [ga]
   have:=(dy hp).2.2.2
   omega)
  unfold fj
  split
  ·exact⟨hj,eE _⟩
  ·split
   ·exact⟨Nat.le_trans (gz _ _) (by omega),h0 _ _⟩
   ·exact⟨by show (aL _ _ _).j.bs.length≤_;omega,eE _⟩
 have hf:=iZ f B hB hb
 have hm:=fY f
 unfold ropenM
 split
 ·split
  ·exact⟨Nat.le_trans (gz _ _) hf.2,h0 _ _⟩
  ·exact hE _ _ hf.1 hf.2
 ·split
  ·exact⟨Nat.le_trans (gz _ _) hm,h0 _ _⟩
  ·exact hE _ _ hB hm
theorem z64:i64 0:=by unfold i64;decide
theorem nK (f:Fl) (e:Int):(bq f e).left=0:=by unfold bq;split<;>rfl
theorem fk (j:Jn) (e:Int):(bg j e).left=0:=by unfold bg;split<;>rfl
theorem rU (j:Jn) (l:List (List UInt8)) (B:Int) (hB:i64 B) (hb:j.bs.length<1000000000) (hl:∀b,b∈l→b.length<1000000):i64 (aL j l B).left:=by
 unfold aL
 split
 ·exact z64
 split
 ·exact z64
 split
 ·exact z64
 split
 ·exact z64
 have hs:=rM (f:=flOf j) (budget:=B) (fw j l) hB hb (fun o ho=>by
  unfold fw at ho
  simp only [List.mem_cons,List.mem_append,List.not_mem_nil,or_false] at ho
  rcases ho with rfl|ho|rfl
  ·trivial
  ·exact wW _ _ _ _ hl o ho
  ·show (headM _).length<_;rw [bT];decide)
 unfold iV
 split
 ·rw [nK];exact z64
 ·exact hs
theorem AJ (j:Jn) (b:List UInt8) (B:Int) (hB:i64 B) (hb:j.bs.length<1000000000) (hl:b.length<1000000):i64 (cU j b B).left:=by
 have hp:=(eO (f:=flOf j) (budget:=B) (.wr j.page j.tail (aY (UInt64.ofNat j.gen.toNat) b)) hB hb (by show (aY _ _).length<_;rw [bp];omega)).1
 unfold cU
 split
 ·exact z64
 split
 ·exact z64
 split
 ·exact z64
 split
 ·exact z64
 split
 ·rw [nK];exact z64
 ·exact hp
theorem xx (j:Jn):∀b,b∈aI (aF j)→b.length<1000000:=fun b hb=>by
 obtain⟨p,hp,rfl⟩:=List.mem_map.1 hb
 rw [ga]
 have:=(dy hp).2.2.2
 omega
theorem qv (f:Fl) (B:Int) (hB:i64 B) (hb:f.bs.length<1000000000):i64 (ropenM f B).left:=by
 have hE:∀j left,i64 left→j.bs.length≤f.bs.length→i64 (fj j left).left:=fun j left hl hj=>by
  unfold fj
  split
  ·exact hl
  ·split
   ·rw [fk];exact z64
   ·exact rU j _ left hl (by omega) (xx j)
 have hf:=iZ f B hB hb
 have hm:=fY f
 unfold ropenM
 split
 ·split
  ·rw [fk];exact z64
  ·exact hE _ _ hf.1 hf.2
 ·split
  ·rw [fk];exact z64
  ·exact hE _ _ hB hm
theorem rV (f:Fl) (a m:Nat) (ch:Nat→UInt8→UInt8):(ao f a m (-1) ch).left = -1:=(iP m).2.2
theorem AK (f:Fl) (p:Int) (h:(df f p (-1)).err=0):(df f p (-1)).left = -1:=by
 unfold df at h ⊢
 by_cases ha:eo f p 0 0≠0
 ·rw [if_pos ha] at h;exact absurd h ha
 ·rw [if_neg ha];exact rV _ _ _ _
theorem wb (f:Fl) (p a:Int) (b:List UInt8) (h:(cy f p a b (-1)).err=0):(cy f p a b (-1)).left = -1:=by
 unfold cy at h ⊢
 by_cases ha:eo f p a b.length≠0
 ·rw [if_pos ha] at h;exact absurd h ha
 ·rw [if_neg ha];exact rV _ _ _ _
theorem FO (f:Fl) (o:JOp) (h:(cM f (-1) o).err=0):(cM f (-1) o).left = -1:=by
 cases o with
 | er p=>exact AK f p h
 | wr p a b=>exact wb f p a b h
theorem y0:∀(l:List JOp) (f:Fl),(cv f (-1) l).err=0→(cv f (-1) l).left = -1
 | [],f,_=>rfl
 | o::r,f,h=>by
  simp only [cv] at h ⊢
  by_cases he:(cM f (-1) o).err≠0
  ·rw [if_pos he] at h;exact absurd h he
  ·rw [if_neg he] at h ⊢
   have hr:=FO f o (by simpa using he)
   rw [hr] at h ⊢
   exact y0 r _ h
theorem DG (j:Jn) (l:List (List UInt8)) (h:(aL j l (-1)).err=0):(aL j l (-1)).left = -1:=by
 unfold aL at h ⊢
 split at h
 ·cases h
 rename_i h1
 rw [if_neg h1]
 split at h
 ·cases h
 rename_i h2
 rw [if_neg h2]
 split at h
 ·cases h
 rename_i h3
 rw [if_neg h3]
 split at h
 ·cases h
 rename_i h4
 rw [if_neg h4]
 unfold iV at h ⊢
 by_cases he:(cv (flOf j) (-1) (fw j l)).err≠0
 ·rw [if_pos he] at h
  unfold bq at h
  split at h
  ·cases h
  ·exact absurd h he
 ·rw [if_neg he]
  exact y0 _ _ (by simpa using he)
theorem DH (j:Jn) (b:List UInt8) (h:(cU j b (-1)).err=0):(cU j b (-1)).left = -1:=by
 unfold cU at h ⊢
 split at h
 ·cases h
 rename_i h1
 rw [if_neg h1]
 split at h
 ·cases h
 rename_i h2
 rw [if_neg h2]
 split at h
 ·cases h
 rename_i h3
 rw [if_neg h3]
 split at h
 ·cases h
 rename_i h4
 rw [if_neg h4]
 split at h
 ·rename_i he
  unfold bq at h
  split at h
  ·cases h
  ·exact absurd h he
 ·rename_i he
  rw [if_neg he]
  exact wb (flOf j) j.page j.tail (aY (UInt64.ofNat j.gen.toNat) b) (by simpa using he)
theorem xy (v:Vt) (l:ag) (B:Int) (hB:i64 B) (hb:v.j.bs.length<1000000000) (hl:∀x,x∈l→x.2.length<1000) (hll:l.length<100) (hv:∀x,x∈v.prs→x.2.length≤8192):i64 (cj v l B).left:=by
 unfold cj
 have hsz:szM l≤l.length*(3+1000):=lj l 1000 (fun x hx=>Nat.le_of_lt (hl x hx))
 have:l.length*(3+1000)≤100*(3+1000):=Nat.mul_le_mul_right _ (by omega)
 split
 ·exact AJ _ _ _ hB hb (by rw [bA];omega)
 ·refine rU _ _ _ hB hb (fun b hb=>?_)
  obtain⟨p,hp,rfl⟩:=List.mem_map.1 hb
  rw [ga]
  rcases kn hp with ⟨hp,_⟩|hp
  ·have:=hl p hp;omega
  ·have:=hv p hp;omega
theorem rW (v:Vt) (l:ag) (B:Int) (hB:i64 B) (hb:v.j.bs.length<1000000000) (hl:∀x,x∈l→x.2.length<1000) (hll:l.length<100):i64 (rputM v l B).left:=by
 unfold rputM
 split
 ·rw [fk];exact z64
 ·rename_i hg
  have hv:∀x,x∈v.prs→x.2.length≤8192:=fun x hx=>by rw [(l9 hg).2] at hx;exact (dy hx).2.2.2
  split
  ·rw [fk];exact z64
  ·split
   ·rw [fk];exact z64
   ·split
    ·rw [fk];exact z64
    ·exact xy v l B hB hb hl hll hv
theorem DI (j:Jn) (e:Int) (he:e≠0):(bg j e).err≠0:=by
 unfold bg
 split
 ·show (16:Int)≠0;decide
 ·exact he
theorem DJ (v:Vt) (l:ag) (h:(rputM v l (-1)).err=0):(rputM v l (-1)).left = -1:=by
 have hlo:=@DI
 unfold rputM at h ⊢
 split at h
 ·exact absurd h (hlo _ _ (by decide))
 rename_i h1
 rw [if_neg h1]
 split at h
 ·rename_i he;exact absurd h (hlo _ _ he)
 rename_i h2
 rw [if_neg h2]
 split at h
 ·exact absurd h (hlo _ _ (by decide))
 rename_i h3
 rw [if_neg h3]
 split at h
 ·rename_i he;exact absurd h (hlo _ _ he)
 rename_i h4
 rw [if_neg h4]
 show (cj v l (-1)).left = -1
 have h4:(cj v l (-1)).err=0:=by simpa using h4
 unfold cj at h4 ⊢
 split at h4
 ·rename_i hc;rw [if_pos hc];exact DH _ _ h4
 ·rename_i hc;rw [if_neg hc];exact DG _ _ h4
theorem xz {f:Fl} {p k:Nat} (hv:VFl f p k) (h11:(mountM f).err=11):(ropenM f (-1)).left = -1:=by
 obtain⟨j,hj,hm,hvj,ht,htn,hps,hrec,hgen⟩:=lO hv
 have hj':bx f (-1)=⟨j,-1,0⟩:=by rw [← iO,hj]
 unfold ropenM
 rw [if_pos h11,hj',if_neg (fun c=>c rfl)]
 unfold fj
 rw [if_pos htn]
theorem VOk.ps512 {v:Vt} {G:Int} (h:VOk v G):(512:Int)≤v.j.ps∧v.j.ps≤8192:=by
 obtain⟨p,k,h⟩:=h.mt.vfl
 have h1:v.j.ps=p:=h.ps
 have h2:=h.p1
 have h3:=h.p2
 omega
end Go.Proofs.YtebndjnkmcahaaaGreatDoor
end
