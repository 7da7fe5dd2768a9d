/- The walk of the law PointsReach. -/

